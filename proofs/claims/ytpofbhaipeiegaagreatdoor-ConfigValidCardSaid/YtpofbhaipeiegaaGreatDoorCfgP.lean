/-
  config's parser: ends (printed by gen_cfgp.py).
-/
import Derived.Test.YtpofbhaipeiegaaGreatDoorCfgO
namespace Go.Proofs.YtpofbhaipeiegaaGreatDoor
set_option linter.unusedSimpArgs false
set_option linter.unusedVariables false
open Go.RowKit Go.Shelf Go.Sort

def bindS {α β : Type} (U : Except Int (α × List (List UInt8))) (f : α → List (List UInt8) → Except Int β) : Except Int β := match U with | .error e => .error e | .ok (a, r) => f a r
def bindC {β : Type} (U : Except Int Unit) (v : Except Int β) : Except Int β := match U with | .error e => .error e | .ok _ => v
def endsS (dry : Bool) (sy : SymS) (ws : List (List UInt8)) : PR (Int × Int) :=
  bindS (expectS kFrom ws) fun _ r1 => bindS (useS dry sy 1 r1) fun a r2 => bindS (expectS kTo r2) fun _ r3 => bindS (useS dry sy 1 r3) fun b r4 => bindC (chkS dry (a != b) 1) (.ok ((a, b), r4))
def encII (p : Int × Int) : Value := .tuple #[.int .i64 p.1, .int .i64 p.2]
section
variable {pb : Nat} {k : List Value} {A : Option Addr} {cw : Nat} {all : List (List UInt8)} {dry : Bool} {sb : Nat} {sy : SymS} {rest : List (List UInt8)} {W : World}
theorem cfg_expect (h : PS pb k A cw all dry sb sy rest W) (w : List UInt8) (hw : w ≠ []) : Calls Tryz.prog 95 #[.pointer (some ⟨pb, 0, none⟩), .string ⟨w.toArray⟩] W (RetP pb k A cw all dry sb sy encU W (expectS w rest)) := by
  rcases accept_sp w rest hw with ⟨q, rfl, e⟩ | ⟨h1, e⟩
  · have e2 : expectS w (w :: q) = .ok ((), q) := by simp [expectS]
    rw [e2]; exact cfg_expect_yes h
  · have e2 : expectS w rest = .error 3 := by
      cases rest with
      | nil => rfl
      | cons x q => simp only [expectS]; rw [if_neg (by simpa [peekS] using h1)]
    rw [e2]; exact cfg_expect_no h h1
theorem cfg_name (h : PS pb k A cw all dry sb sy rest W) : Calls Tryz.prog 87 #[.pointer (some ⟨pb, 0, none⟩)] W (RetP pb k A cw all dry sb sy encS W (nameS rest)) := by
  cases hn : namedB (peekS rest) with
  | false =>
    have e2 : nameS rest = .error 3 := by
      cases rest with
      | nil => rfl
      | cons x q => simp only [nameS]; rw [if_neg (by rw [show namedB x = false from hn]; decide)]
    rw [e2]; exact cfg_name_no h hn
  | true =>
    cases rest with
    | nil => cases hn
    | cons x q =>
      have e2 : nameS (x :: q) = .ok (x, q) := by simp only [nameS]; rw [if_pos (show namedB x = true from hn)]
      rw [e2]; exact cfg_name_yes h hn
set_option maxHeartbeats 4000000 in
set_option maxRecDepth 100000 in
theorem cfg_ends (h : PS pb k A cw all dry sb sy rest W) : Calls Tryz.prog 91 #[.pointer (some ⟨pb, 0, none⟩)] W (RetP pb k A cw all dry sb sy encII W (endsS dry sy rest)) := by
  obtain ⟨V, hV⟩ : ∃ V, V = endsS dry sy rest := ⟨_, rfl⟩
  rw [← hV]
  simp only [endsS, kFrom, kTo] at hV
  have HV := Lib.hid hV
  have HP := Lib.hid h
  have HN := Lib.hid (LoN.refl pb W)
  clear hV h
  go_enter Tryz.func91, Tryz.ntmps91
  go_wp2_with (first | (go_at_call 95; (first | ((with_reducible refine (cfg_expect HP.out _ (by decide)).mono ?_))); (first | (rintro e w1 hr)); (first | (generalize hU : expectS _ _ = U at hr HV)); (first | (rcases U with c1 | ⟨v1, r1⟩)); (first | (focus (obtain ⟨rfl, hl1⟩ := hr; obtain rfl := HV.out; exact ⟨rfl, rfl, HN.out.trans hl1⟩))); (first | (obtain ⟨rfl, hp1, hl1⟩ := hr)); (first | (skip)); (first | (simp only [bindS] at HV)); (first | (skip)); (first | (replace HP := Lib.hid hp1)); (first | (replace HN := Lib.hid (HN.out.trans hl1))); (first | (skip)); (first | (clear hp1 hl1 hU))) | (go_at_call 98; (first | ((with_reducible refine (cfg_use HP.out 1).mono ?_))); (first | (rintro e w1 hr)); (first | (generalize hU : useS _ _ 1 _ = U at hr HV)); (first | (rcases U with c1 | ⟨v1, r1⟩)); (first | (focus (obtain ⟨rfl, hl1⟩ := hr; obtain rfl := HV.out; exact ⟨rfl, rfl, HN.out.trans hl1⟩))); (first | (obtain ⟨rfl, hp1, hl1⟩ := hr)); (first | (simp only [encI])); (first | (simp only [bindS] at HV)); (first | (skip)); (first | (replace HP := Lib.hid hp1)); (first | (replace HN := Lib.hid (HN.out.trans hl1))); (first | (skip)); (first | (clear hp1 hl1 hU))) | (go_at_call 110; (first | ((with_reducible refine (cfg_check HP.out _ 1).mono ?_))); (first | (rintro e w1 hr)); (first | (generalize hU : chkS _ _ 1 = U at hr HV)); (first | (unfold RetC at hr)); (first | (rw [hU] at hr)); (first | (clear hU)); (first | (rcases U with c1 | v1)); (first | (focus (obtain ⟨rfl, rfl⟩ := hr; obtain rfl := HV.out; exact ⟨rfl, rfl, HN.out⟩))); (first | (obtain ⟨rfl, rfl⟩ := hr)); (first | (simp only [bindC] at HV))))
  go_ret2
  obtain rfl := HV.out
  exact ⟨rfl, HP.out, HN.out⟩
end

end Go.Proofs.YtpofbhaipeiegaaGreatDoor
