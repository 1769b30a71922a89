/-
  config's parser: operations.
  config's parser: the stacks of an expression.
-/
import Derived.Test.YtpofbhaipeiegaaGreatDoorCfgD
import Derived.Laws.OwnMore
import Derived.Deep.AppendLies
import Derived.LoopTactic
import Derived.Deep.CutRange
namespace Go.Proofs.YtpofbhaipeiegaaGreatDoor
set_option linter.unusedSimpArgs false
set_option linter.unusedVariables false
open Go.RowKit Go.Shelf Go.Sort

section
variable {pb : Nat} {k : List Value} {A : Option Addr} {cw : Nat} {all : List (List UInt8)} {dry : Bool} {sb : Nat} {sy : SymS} {rest : List (List UInt8)} {W : World}
/-- How an operation ends. -/
def RetO (r : Except Int Int) (w : World) (e : Ending) (w' : World) : Prop := (match r with | .ok c => e = .returned (.int .i64 c) | .error c => e = .panicked [{ v := .iface 38 (.int .i64 c), recovered := false }]) ∧ w = w'
def inB (c : Int) : Bool := decide (-1099511627776 ≤ c) && decide (c ≤ 1099511627776)
theorem smallS_ok {c : Int} (h : dry = true ∨ inB c = true) : smallS dry c = .ok c := by
  unfold smallS
  rw [if_neg]
  rintro ⟨h1, h2⟩
  rcases h with h | h
  · rw [h] at h1; cases h1
  · simp [inB] at h; exact h2 h
theorem smallS_no {c : Int} (h1 : dry = false) (h : inB c = false) : smallS dry c = .error 2 := by
  unfold smallS
  rw [if_pos]
  refine ⟨h1, fun h2 => ?_⟩
  have : inB c = true := by simp [inB]; exact h2
  rw [this] at h; cases h
set_option maxHeartbeats 4000000 in
set_option maxRecDepth 100000 in
theorem cfg_operate (h : PS pb k A cw all dry sb sy rest W) (o : List UInt8) (a b : Int) (ha : -9223372036854775808 ≤ a ∧ a ≤ 9223372036854775807) (hb : -9223372036854775808 ≤ b ∧ b ≤ 9223372036854775807) :
    Calls Tryz.prog 125 #[.pointer (some ⟨pb, 0, none⟩), .string ⟨o.toArray⟩, .int .i64 a, .int .i64 b] W (RetO (operateS dry o a b) W) := by
  have HP := Lib.hid h
  obtain ⟨U, hU⟩ : ∃ U, U = operateS dry o a b := ⟨_, rfl⟩
  rw [← hU]
  have HU := Lib.hid hU
  have HA := Lib.hid ha
  have HBb := Lib.hid hb
  clear h hU ha hb
  by_cases h1 : o = oPlus
  · subst h1
    show Calls _ _ #[_, .string ⟨#[43]⟩, _, _] _ _
    have HW : Hid (∀ w, Calls Tryz.prog 37 #[.int .i64 (wrap64 (a + b)), .int .i64 (-1099511627776), .int .i64 1099511627776] w fun e w' => e = .returned (.bool (inB (wrap64 (a + b)))) ∧ w = w') := Lib.hid fun w => cfg_within _ _ _ w
    have HE : Hid (U = smallS dry (wrap64 (a + b))) := Lib.hid (HU.out.trans (by simp only [operateS, if_true]))
    cases ht : inB (wrap64 (a + b)) with
    | true =>
      obtain rfl : U = .ok (wrap64 (a + b)) := HE.out.trans (smallS_ok (.inr ht))
      rw [ht] at HW
      clear ht HE HU
      go_enter Tryz.func125, Tryz.ntmps125
      go_wp2_with (first | (go_at_call 37; refine (HW.out _).mono ?_; rintro e w1 ⟨rfl, rfl⟩) | (go_at_call 110; (with_reducible refine (cfg_check_ok HP.out (.inr rfl) _).mono ?_); rintro e w2 ⟨rfl, rfl⟩))
      go_ret
      exact ⟨rfl, rfl⟩
    | false =>
      cases dry with
      | true =>
        obtain rfl : U = .ok (wrap64 (a + b)) := HE.out.trans (smallS_ok (.inl rfl))
        rw [ht] at HW
        clear ht HE HU
        go_enter Tryz.func125, Tryz.ntmps125
        go_wp2_with (first | (go_at_call 37; refine (HW.out _).mono ?_; rintro e w1 ⟨rfl, rfl⟩) | (go_at_call 110; (with_reducible refine (cfg_check_ok HP.out (.inl rfl) _).mono ?_); rintro e w2 ⟨rfl, rfl⟩))
        go_ret
        exact ⟨rfl, rfl⟩
      | false =>
        obtain rfl : U = .error 2 := HE.out.trans (smallS_no rfl ht)
        rw [ht] at HW
        clear ht HE HU
        go_enter Tryz.func125, Tryz.ntmps125
        go_wp2_with (first | (go_at_call 37; refine (HW.out _).mono ?_; rintro e w1 ⟨rfl, rfl⟩) | (go_at_call 110; (with_reducible refine (cfg_check_no HP.out _).mono ?_); rintro e w2 ⟨rfl, rfl⟩))
        exact ⟨rfl, rfl, rfl⟩
  by_cases h2 : o = oMinus
  · subst h2
    show Calls _ _ #[_, .string ⟨#[45]⟩, _, _] _ _
    clear h1
    have HW : Hid (∀ w, Calls Tryz.prog 37 #[.int .i64 (wrap64 (a - b)), .int .i64 (-1099511627776), .int .i64 1099511627776] w fun e w' => e = .returned (.bool (inB (wrap64 (a - b)))) ∧ w = w') := Lib.hid fun w => cfg_within _ _ _ w
    have HE : Hid (U = smallS dry (wrap64 (a - b))) := Lib.hid (HU.out.trans (by rw [operateS, if_neg (by decide), if_pos rfl]))
    cases ht : inB (wrap64 (a - b)) with
    | true =>
      obtain rfl : U = .ok (wrap64 (a - b)) := HE.out.trans (smallS_ok (.inr ht))
      rw [ht] at HW
      clear ht HE HU
      go_enter Tryz.func125, Tryz.ntmps125
      go_wp2_with (first | (go_at_call 37; refine (HW.out _).mono ?_; rintro e w1 ⟨rfl, rfl⟩) | (go_at_call 110; (with_reducible refine (cfg_check_ok HP.out (.inr rfl) _).mono ?_); rintro e w2 ⟨rfl, rfl⟩))
      go_ret
      exact ⟨rfl, rfl⟩
    | false =>
      cases dry with
      | true =>
        obtain rfl : U = .ok (wrap64 (a - b)) := HE.out.trans (smallS_ok (.inl rfl))
        rw [ht] at HW
        clear ht HE HU
        go_enter Tryz.func125, Tryz.ntmps125
        go_wp2_with (first | (go_at_call 37; refine (HW.out _).mono ?_; rintro e w1 ⟨rfl, rfl⟩) | (go_at_call 110; (with_reducible refine (cfg_check_ok HP.out (.inl rfl) _).mono ?_); rintro e w2 ⟨rfl, rfl⟩))
        go_ret
        exact ⟨rfl, rfl⟩
      | false =>
        obtain rfl : U = .error 2 := HE.out.trans (smallS_no rfl ht)
        rw [ht] at HW
        clear ht HE HU
        go_enter Tryz.func125, Tryz.ntmps125
        go_wp2_with (first | (go_at_call 37; refine (HW.out _).mono ?_; rintro e w1 ⟨rfl, rfl⟩) | (go_at_call 110; (with_reducible refine (cfg_check_no HP.out _).mono ?_); rintro e w2 ⟨rfl, rfl⟩))
        exact ⟨rfl, rfl, rfl⟩
  have k1 : (o == [43]) = false := by simpa [oPlus] using h1
  have k2 : (o == [45]) = false := by simpa [oMinus] using h2
  have HO := Lib.hid (And.intro h1 h2)
  clear h1 h2
  by_cases h3 : a = 0
  · subst h3
    obtain rfl : U = .ok 0 := HU.out.trans (by rw [operateS, if_neg HO.out.1, if_neg HO.out.2, if_pos (.inl rfl)])
    go_enter Tryz.func125, Tryz.ntmps125
    go_wp2
    go_ret
    exact ⟨rfl, rfl⟩
  by_cases h4 : b = 0
  · subst h4
    obtain rfl : U = .ok 0 := HU.out.trans (by rw [operateS, if_neg HO.out.1, if_neg HO.out.2, if_pos (.inr rfl)])
    have k3 : (a == 0) = false := by simpa using h3
    clear h3
    go_enter Tryz.func125, Tryz.ntmps125
    go_wp2
    go_ret
    exact ⟨rfl, rfl⟩
  have k3 : (a == 0) = false := by simpa using h3
  have k4 : (b == 0) = false := by simpa using h4
  have HN := Lib.hid (And.intro h3 h4)
  clear h3 h4
  have hz : ¬ max a (wrap64 (-a)) = 0 := by
    intro e
    have hA := HA.out
    by_cases hm : a = -9223372036854775808
    · subst hm
      unfold wrap64 at e
      omega
    · have hw : wrap64 (-a) = -a := IntWalk.wrap64_in _ (by omega)
      rw [hw] at e
      have := HN.out.1
      omega
  obtain ⟨m, hm⟩ : ∃ m, m = mulOk a b := ⟨_, rfl⟩
  have HM := Lib.hid hm
  have HK : Hid (∀ w, (m = true → PS pb k A cw all dry sb sy rest w → Calls Tryz.prog 110 #[.pointer (some ⟨pb, 0, none⟩), .bool (decide (max b (wrap64 (-b)) ≤ wrap64 (Int.tdiv 1099511627776 (max a (wrap64 (-a)))))), .int .i64 2] w fun e w' => e = .returned (.tuple #[]) ∧ w = w')) := Lib.hid fun w h1 h2 => by
    rw [show decide (max b (wrap64 (-b)) ≤ wrap64 (Int.tdiv 1099511627776 (max a (wrap64 (-a))))) = m from hm.symm, h1]
    exact cfg_check_ok h2 (.inr rfl) 2
  have HK2 : Hid (∀ w, dry = true → PS pb k A cw all dry sb sy rest w → Calls Tryz.prog 110 #[.pointer (some ⟨pb, 0, none⟩), .bool (decide (max b (wrap64 (-b)) ≤ wrap64 (Int.tdiv 1099511627776 (max a (wrap64 (-a)))))), .int .i64 2] w fun e w' => e = .returned (.tuple #[]) ∧ w = w') := Lib.hid fun w h1 h2 => cfg_check_ok h2 (.inl h1) 2
  have HK3 : Hid (∀ w, dry = false → m = false → PS pb k A cw all dry sb sy rest w → Calls Tryz.prog 110 #[.pointer (some ⟨pb, 0, none⟩), .bool (decide (max b (wrap64 (-b)) ≤ wrap64 (Int.tdiv 1099511627776 (max a (wrap64 (-a)))))), .int .i64 2] w fun e w' => e = errP 2 ∧ w = w') := Lib.hid fun w h0 h1 h2 => by
    rw [show decide (max b (wrap64 (-b)) ≤ wrap64 (Int.tdiv 1099511627776 (max a (wrap64 (-a))))) = m from hm.symm, h1]
    subst h0
    exact cfg_check_no h2 2
  clear hm
  by_cases hbad : dry = false ∧ m = false
  · obtain ⟨hd, hmf⟩ := hbad
    obtain rfl : U = .error 2 := HU.out.trans (by rw [operateS, if_neg HO.out.1, if_neg HO.out.2, if_neg (by have := HN.out; omega), if_pos ⟨hd, by rw [← HM.out]; exact hmf⟩])
    have HK4 := Lib.hid (HK3.out W hd hmf HP.out)
    clear hd hmf
    go_enter Tryz.func125, Tryz.ntmps125
    go_wp2_with (go_at_call 110; refine HK4.out.mono ?_; rintro e w2 ⟨rfl, rfl⟩)
    exact ⟨rfl, rfl, rfl⟩
  · have HK4 : Hid (∀ w, PS pb k A cw all dry sb sy rest w → Calls Tryz.prog 110 #[.pointer (some ⟨pb, 0, none⟩), .bool (decide (max b (wrap64 (-b)) ≤ wrap64 (Int.tdiv 1099511627776 (max a (wrap64 (-a)))))), .int .i64 2] w fun e w' => e = .returned (.tuple #[]) ∧ w = w') := Lib.hid fun w h2 => by
      cases hd : dry with
      | true => subst hd; exact HK2.out w rfl h2
      | false =>
        cases hm : m with
        | true => exact HK.out w hm (hd ▸ h2)
        | false => exact absurd ⟨hd, hm⟩ hbad
    have HE0 : Hid (U = smallS dry (wrap64 (a * b))) := Lib.hid (HU.out.trans (by rw [operateS, if_neg HO.out.1, if_neg HO.out.2, if_neg (by have := HN.out; omega), if_neg (by rw [← HM.out]; exact hbad)]))
    clear hbad HK HK2 HK3 HM
    have HW : Hid (∀ w, Calls Tryz.prog 37 #[.int .i64 (wrap64 (a * b)), .int .i64 (-1099511627776), .int .i64 1099511627776] w fun e w' => e = .returned (.bool (inB (wrap64 (a * b)))) ∧ w = w') := Lib.hid fun w => cfg_within _ _ _ w
    cases ht : inB (wrap64 (a * b)) with
    | true =>
      obtain rfl : U = .ok (wrap64 (a * b)) := HE0.out.trans (smallS_ok (.inr ht))
      rw [ht] at HW
      clear ht HE0 HU
      go_enter Tryz.func125, Tryz.ntmps125
      go_wp2_with (first | (go_at_call 37; refine (HW.out _).mono ?_; rintro e w1 ⟨rfl, rfl⟩) | (go_at_call 110; (with_reducible refine (HK4.out _ HP.out).mono ?_); rintro e w3 ⟨rfl, rfl⟩) | (go_at_call 110; (with_reducible refine (cfg_check_ok HP.out (.inr rfl) _).mono ?_); rintro e w2 ⟨rfl, rfl⟩))
      go_ret
      exact ⟨rfl, rfl⟩
    | false =>
      cases dry with
      | true =>
        obtain rfl : U = .ok (wrap64 (a * b)) := HE0.out.trans (smallS_ok (.inl rfl))
        rw [ht] at HW
        clear ht HE0 HU
        go_enter Tryz.func125, Tryz.ntmps125
        go_wp2_with (first | (go_at_call 37; refine (HW.out _).mono ?_; rintro e w1 ⟨rfl, rfl⟩) | (go_at_call 110; (with_reducible refine (HK4.out _ HP.out).mono ?_); rintro e w3 ⟨rfl, rfl⟩) | (go_at_call 110; (with_reducible refine (cfg_check_ok HP.out (.inl rfl) _).mono ?_); rintro e w2 ⟨rfl, rfl⟩))
        go_ret
        exact ⟨rfl, rfl⟩
      | false =>
        obtain rfl : U = .error 2 := HE0.out.trans (smallS_no rfl ht)
        rw [ht] at HW
        clear ht HE0 HU
        go_enter Tryz.func125, Tryz.ntmps125
        go_wp2_with (first | (go_at_call 37; refine (HW.out _).mono ?_; rintro e w1 ⟨rfl, rfl⟩) | (go_at_call 110; (with_reducible refine (HK4.out _ HP.out).mono ?_); rintro e w3 ⟨rfl, rfl⟩) | (go_at_call 110; (with_reducible refine (cfg_check_no HP.out _).mono ?_); rintro e w2 ⟨rfl, rfl⟩))
        exact ⟨rfl, rfl, rfl⟩
end

end Go.Proofs.YtpofbhaipeiegaaGreatDoor
namespace Go.Proofs.YtpofbhaipeiegaaGreatDoor
set_option linter.unusedSimpArgs false
set_option linter.unusedVariables false
open Go.RowKit Go.Shelf Go.Sort

theorem own_trunc {w : World} {base : Nat} {e : TypeId} {g n c m : Nat} {xs : List Value} (h : w.ownsRow base e 1 (.slice (some ⟨g, 0, none⟩) n c) n xs) (hm : m ≤ n) : w.ownsRow base e 1 (.slice (some ⟨g, 0, none⟩) m c) m (xs.take m) := by
  obtain ⟨hl, ⟨h0, _⟩ | ⟨g', cap, cur, h0, hb, hg, hn, hc, hs, ht⟩⟩ := h
  · cases h0
  · injection h0 with e1 e2 e3
    injection e1 with e1
    injection e1 with e1
    subst e1 e3
    refine ⟨by rw [List.length_take, hl]; omega, .inr ⟨g, c, cur, rfl, hb, hg, by omega, hc, hs, ?_⟩⟩
    rw [← ht, List.take_take]
    congr 1
    omega
theorem own_keepG {w w' : World} {base : Nat} {e : TypeId} {size n : Nat} {v : Value} {xs : List Value} (h : w.ownsRow base e size v n xs) (hb : ∀ g, v.ownBlock = some g → w'.heap[g]? = w.heap[g]?) : w'.ownsRow base e size v n xs := by
  rcases h with ⟨hl, h0 | ⟨g, cap, cur, rfl, hB, hg, rest⟩⟩
  · exact ⟨hl, .inl h0⟩
  · exact ⟨hl, .inr ⟨g, cap, cur, rfl, hB, (hb g rfl).trans hg, rest⟩⟩
theorem own_form {w : World} {base : Nat} {e : TypeId} {n c : Nat} {A : Option Addr} {xs : List Value} (h : w.ownsRow base e 1 (.slice A (n + 1) c) (n + 1) xs) : ∃ g, A = some ⟨g, 0, none⟩ ∧ n + 1 ≤ c ∧ base ≤ g ∧ g < w.heap.size := by
  obtain ⟨hl, ⟨h0, _⟩ | ⟨g', cap, cur, h0, hb, hg, hn, hc, hs, ht⟩⟩ := h
  · cases h0
  · injection h0 with e1 e2 e3
    exact ⟨g', e1, by omega, hb, lt_of_heap hg⟩

def inI (v : Int) : Prop := -9223372036854775808 ≤ v ∧ v ≤ 9223372036854775807
theorem inI_wrap (v : Int) : inI (wrap64 v) := by unfold inI wrap64; omega
def fldA : Option Addr → Option Nat
  | some a => some a.block
  | none => none
/-- The stacks of an expression, their last elements first. -/
structure SK (stb : Nat) (ops : List (List UInt8)) (vs : List Int) (Av : Option Addr) (cv : Nat) (Ao : Option Addr) (co : Nat) (W : World) : Prop where
  st : W.heap[stb]? = some (.cells #[.slice Av vs.length cv, .slice Ao ops.length co] 157 (0, 0))
  hv : W.ownsRow (stb + 1) 3 1 (.slice Av vs.length cv) vs.length (vs.reverse.map (Value.int .i64))
  ho : W.ownsRow (stb + 1) 9 1 (.slice Ao ops.length co) ops.length (ops.reverse.map strW)
  ne : ∀ g, fldA Av = some g → fldA Ao ≠ some g
  vb : ∀ v ∈ vs, inI v
theorem ownBlock_A (A : Option Addr) (n c : Nat) : (Value.slice A n c).ownBlock = fldA A := by cases A <;> rfl
section
variable {stb : Nat} {ops : List (List UInt8)} {vs : List Int} {Av Ao : Option Addr} {cv co : Nat} {W W' : World}
theorem SK.lt (h : SK stb ops vs Av cv Ao co W) : stb < W.heap.size := lt_of_heap h.st
theorem SK.rows (h : SK stb ops vs Av cv Ao co W) : (∀ g, fldA Av = some g → stb < g ∧ g < W.heap.size) ∧ ∀ g, fldA Ao = some g → stb < g ∧ g < W.heap.size :=
  ⟨fun g e => h.hv.lt g (by rw [ownBlock_A]; exact e), fun g e => h.ho.lt g (by rw [ownBlock_A]; exact e)⟩
/-- What leaves the three blocks alone keeps the stacks. -/
theorem SK.keep (h : SK stb ops vs Av cv Ao co W) (hb : ∀ g, stb ≤ g → g < W.heap.size → W'.heap[g]? = W.heap[g]?) : SK stb ops vs Av cv Ao co W' :=
  ⟨(hb _ (Nat.le_refl _) h.lt).trans h.st, own_keepG h.hv fun g e => by rw [ownBlock_A] at e; have := h.rows.1 g e; exact hb g (by omega) this.2, own_keepG h.ho fun g e => by rw [ownBlock_A] at e; have := h.rows.2 g e; exact hb g (by omega) this.2, h.ne, h.vb⟩
theorem SK.loN {pb : Nat} (h : SK stb ops vs Av cv Ao co W) (hl : LoN pb W W') (hp : pb < stb) : SK stb ops vs Av cv Ao co W' := h.keep fun g h1 h2 => hl.blk g h2 (by simp; omega)
theorem SK.cells (h : SK stb ops vs Av cv Ao co W) : W.cell? ⟨stb, 0, none⟩ = some (.slice Av vs.length cv) ∧ W.cell? ⟨stb, 1, none⟩ = some (.slice Ao ops.length co) ∧ ∀ i, W.frozen? ⟨stb, i, none⟩ = false := two_cells h.st
end
theorem rev_last {α : Type} (x : α) (r : List α) : (x :: r).reverse.take r.length = r.reverse := by
  rw [List.reverse_cons, List.take_left' (by simp)]
section
variable {stb : Nat} {o : List UInt8} {ops : List (List UInt8)} {x y : Int} {vs : List Int} {Av Ao : Option Addr} {cv co : Nat} {W : World}
theorem SK.otop (h : SK stb (o :: ops) vs Av cv Ao co W) : ∃ g, Ao = some ⟨g, 0, none⟩ ∧ ops.length + 1 ≤ co ∧ g ≠ stb ∧ W.cell? ⟨g, ops.length, none⟩ = some (.string ⟨o.toArray⟩) := by
  obtain ⟨g, rfl, h1, h2, h3⟩ := own_form h.ho
  refine ⟨g, rfl, h1, by omega, (h.ho.cellAt ops.length (by simp)).trans ?_⟩
  rw [List.getElem?_map, List.reverse_cons, List.getElem?_append_right (by simp)]
  simp [strW]
theorem SK.vtop (h : SK stb ops (x :: vs) Av cv Ao co W) : ∃ g, Av = some ⟨g, 0, none⟩ ∧ vs.length + 1 ≤ cv ∧ g ≠ stb ∧ W.cell? ⟨g, vs.length, none⟩ = some (.int .i64 x) ∧ (∀ i, W.frozen? ⟨g, i, none⟩ = false) ∧ inI x := by
  obtain ⟨g, rfl, h1, h2, h3⟩ := own_form h.hv
  refine ⟨g, rfl, h1, by omega, (h.hv.cellAt vs.length (by simp)).trans ?_, fun i => h.hv.frozenAt i, h.vb x (by simp)⟩
  rw [List.getElem?_map, List.reverse_cons, List.getElem?_append_right (by simp)]
  simp
theorem SK.vtop2 {g : Nat} (h : SK stb ops (y :: x :: vs) (some ⟨g, 0, none⟩) cv Ao co W) : W.cell? ⟨g, vs.length, none⟩ = some (.int .i64 x) := by
  refine (h.hv.cellAt vs.length (by simp; omega)).trans ?_
  rw [List.getElem?_map, List.reverse_cons, List.reverse_cons, List.append_assoc, List.getElem?_append_right (by simp)]
  simp
/-- The last operation is struck. -/
theorem SK.opop {g : Nat} (h : SK stb (o :: ops) vs Av cv (some ⟨g, 0, none⟩) co W) : SK stb ops vs Av cv (some ⟨g, 0, none⟩) co (W.setCell ⟨stb, 1, none⟩ (.slice (some ⟨g, 0, none⟩) ops.length co)) := by
  have hr := h.rows
  have ho := own_trunc (m := ops.length) h.ho (by simp)
  rw [← List.map_take, rev_last] at ho

  exact ⟨heap_setCell_same _ _ _ _ _ _ h.st, own_setT h.hv (by rw [ownBlock_A]; intro e; have := hr.1 _ e; omega) _, own_setT ho (by rw [ownBlock_A]; intro e; have := hr.2 _ e; omega) _, h.ne, h.vb⟩
/-- The last operand is struck. -/
theorem SK.vpop {g : Nat} (h : SK stb ops (x :: vs) (some ⟨g, 0, none⟩) cv Ao co W) : SK stb ops vs (some ⟨g, 0, none⟩) cv Ao co (W.setCell ⟨stb, 0, none⟩ (.slice (some ⟨g, 0, none⟩) vs.length cv)) := by
  have hr := h.rows
  have ho := own_trunc (m := vs.length) h.hv (by simp)
  rw [← List.map_take, rev_last] at ho

  exact ⟨heap_setCell_same _ _ _ _ _ _ h.st, own_setT ho (by rw [ownBlock_A]; intro e; have := hr.1 _ e; omega) _, own_setT h.ho (by rw [ownBlock_A]; intro e; have := hr.2 _ e; omega) _, h.ne, fun v hv => h.vb v (by simp [hv])⟩
/-- The last operand is turned. -/
theorem SK.vset {g : Nat} (h : SK stb ops (x :: vs) (some ⟨g, 0, none⟩) cv Ao co W) {z : Int} (hz : inI z) : SK stb ops (z :: vs) (some ⟨g, 0, none⟩) cv Ao co (W.setCell ⟨g, vs.length, none⟩ (.int .i64 z)) := by
  have hr := (h.rows.1 g rfl)
  have hs := (h.hv.stored vs.length (.int .i64 z)).1
  refine ⟨(Below.heap_setCell _ _ _ _ (by simp; omega)).trans h.st, ?_, own_setT h.ho (by rw [ownBlock_A]; exact h.ne g rfl) _, h.ne, ?_⟩
  · have e : ((x :: vs).reverse.map (Value.int .i64)).set vs.length (.int .i64 z) = (z :: vs).reverse.map (Value.int .i64) := by
      rw [List.reverse_cons, List.reverse_cons, List.map_append, List.map_append, List.set_append_right _ _ (by simp)]
      simp
    rw [e] at hs
    exact hs
  · intro v hv
    rcases List.mem_cons.1 hv with rfl | hv
    · exact hz
    · exact h.vb v (by simp [hv])
theorem SK.lo1 (h : SK stb ops vs Av cv Ao co W) (j : Nat) (v : Value) : LoP stb [] W (W.setCell ⟨stb, j, none⟩ v) := LoP.setC h.st (.inr (Nat.le_refl _)) (Nat.le_of_lt h.lt) v
theorem SK.lo2 {g j : Nat} (h : SK stb ops vs (some ⟨g, 0, none⟩) cv Ao co W) (v : Value) : LoP stb [] W (W.setCell ⟨g, j, none⟩ v) := by
  rcases h.hv.2 with ⟨h0, _⟩ | ⟨g', cap, cur, h0, hb, hg, _⟩
  · cases h0
  · injection h0 with e1
    injection e1 with e1
    injection e1 with e1
    subst e1
    exact LoP.setC hg (.inr (by omega)) (Nat.le_of_lt h.lt) v
end

/-- The parser lies below the stacks. -/
structure PB (stb pb : Nat) (A : Option Addr) (sb : Nat) : Prop where
  p : pb < stb
  s : sb < stb
  a : ∀ b o s, A = some ⟨b, o, s⟩ → b < stb
section
variable {stb pb : Nat} {k : List Value} {A : Option Addr} {cw : Nat} {all : List (List UInt8)} {dry : Bool} {sb : Nat} {sy : SymS} {rest : List (List UInt8)} {W W' : World}
theorem PS.onB (h : PS pb k A cw all dry sb sy rest W) (hb : PB stb pb A sb) (hl : LoP stb [] W W') : PS pb k A cw all dry sb sy rest W' :=
  ⟨(hl.blk pb hb.p (by simp)).trans h.blk, h.kl, h.suf, rd_blocks h.rd (fun b o s e => hl.blk b (hb.a b o s e) (by simp)), fun b o s e => ⟨(h.aw b o s e).1, Nat.lt_of_lt_of_le (h.aw b o s e).2 hl.size⟩, h.al, h.sk, h.sm.kept (hl.blk sb hb.s (by simp)), h.sn⟩
end

theorem open_mem {ops : List (List UInt8)} {i : Nat} (h : ops[i]? = some oOpen) : openS ops = true := by
  simp [openS]; exact List.mem_of_getElem? h
def opLen (stb : Nat) (w : World) : Nat := match w.cell? ⟨stb, 1, none⟩ with | some (.slice _ n _) => n | _ => 0
theorem opLen_of {stb n c : Nat} {A : Option Addr} {w : World} (h : w.cell? ⟨stb, 1, none⟩ = some (.slice A n c)) : opLen stb w = n := by unfold opLen; rw [h]

end Go.Proofs.YtpofbhaipeiegaaGreatDoor
