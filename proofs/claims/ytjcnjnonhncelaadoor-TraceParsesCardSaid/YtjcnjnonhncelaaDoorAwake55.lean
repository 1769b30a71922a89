/-
  waypointlaw55.example and awake: the example of the document holds.
-/
import Derived.Test.YtjcnjnonhncelaaDoorTParse
namespace Go.Proofs.YtjcnjnonhncelaaDoor
set_option linter.unusedSimpArgs false
set_option linter.unusedVariables false
open Go.RowKit Go.Sort

def exL : List Ev := [⟨5, 4, 2, 7, 3, 3⟩, ⟨6, 8, 2, 0, 0, 3⟩]
def exS : List UInt8 := [53, 32, 100, 114, 111, 112, 112, 101, 100, 32, 50, 32, 51, 32, 100, 111, 119, 110, 32, 55, 10, 54, 32, 115, 116, 97, 116, 101, 32, 50, 32, 102, 105, 110, 97, 108, 10]
def badS : List UInt8 := [48, 54, 32, 115, 116, 97, 116, 101, 32, 50, 32, 102, 105, 110, 97, 108, 10]
def badLn : List UInt8 := [48, 54, 32, 115, 116, 97, 116, 101, 32, 50, 32, 102, 105, 110, 97, 108]
theorem exL_ok : trOk exL = true := by decide
theorem itoa_one (u : Nat) (h : u < 10) : Lib.itoa (u : Int) = [UInt8.ofNat (48 + u)] := by
  rw [itoa_dec (by omega), Int.toNat_natCast, dec_small h]
theorem exT : trT exL = exS := by
  have h2 : Lib.itoa 2 = [50] := itoa_one 2 (by decide)
  have h3 : Lib.itoa 3 = [51] := itoa_one 3 (by decide)
  have h5 : Lib.itoa 5 = [53] := itoa_one 5 (by decide)
  have h6 : Lib.itoa 6 = [54] := itoa_one 6 (by decide)
  have h7 : Lib.itoa 7 = [55] := itoa_one 7 (by decide)
  simp [trT, exL, evT, evWs, wsT, h2, h3, h5, h6, h7, nmL, verbsL, reasonsL, statesL, onArcB, exS]
theorem ex_parse : parseT exS = (exL, 0, 0) := by rw [← exT]; exact parse_trT exL_ok
theorem bad_read : rdE badLn = none := by
  cases h : rdE badLn with
  | none => rfl
  | some e =>
    exfalso
    obtain ⟨ho, ht⟩ := rdE_some.1 h
    have h1 := read_evT ho
    rw [ht] at h1
    have h2 : (readP badLn).t = 6 := by decide
    rw [h1] at h2
    have h3 := wd_evT e 0
    rw [ht, h2, show Lib.itoa 6 = [54] from itoa_one 6 (by decide)] at h3
    exact absurd (show wd badLn 0 = [54] from h3) (by decide)
theorem bad_parse : parseT badS = ([], 1, 3) := by
  have e : badS = badLn ++ 10 :: [] := rfl
  obtain ⟨s1, s2⟩ := suff_hit badLn
  unfold parseT
  rw [e, split_line (by decide), goT_bad (by simp) (stepT_bad (by rw [s2]; exact bad_read))]
  rfl

theorem law55_example (w : World) : Calls Tryd.prog 26 #[] w (RetE w exL) := by
  go_enter Tryd.func26, Tryd.ntmps26
  go_wp2_with fail
  go_ret
  refine ⟨some ⟨w.heap.size, 0, none⟩, 2, rfl, Nat.le_refl _, by decide, .inr ⟨_, _, rfl, fun k e he => ?_⟩, below_box _ _⟩
  match k, he with
  | 0, he => injection he with he; subst he; exact ⟨by simp, by simp, by simp, by simp, by simp, by simp⟩
  | 1, he => injection he with he; subst he; exact ⟨by simp, by simp, by simp, by simp, by simp, by simp⟩
  | k + 2, he => simp [exL] at he

set_option maxRecDepth 100000 in
set_option maxHeartbeats 4000000 in
theorem law55_awake (w : World) (hE : Errs w) (ht : Tab w.heap.size w) : Calls Tryd.prog 9 #[] w fun e w' => e = .returned (.bool true) ∧ Below w.heap.size w w' := by
  have HE := Lib.hid hE
  have HT := Lib.hid ht
  have HB := Lib.hid (Below.refl w.heap.size w)
  clear hE ht
  have HC1 : Hid (∀ A c W, RdE W A exL → Tab W.heap.size W → Calls Tryd.prog 10 #[.slice A exL.length c] W fun e w' => e = .returned (.tuple #[.string ⟨#[53, 32, 100, 114, 111, 112, 112, 101, 100, 32, 50, 32, 51, 32, 100, 111, 119, 110, 32, 55, 10, 54, 32, 115, 116, 97, 116, 101, 32, 50, 32, 102, 105, 110, 97, 108, 10]⟩, .int .i64 0]) ∧ Below W.heap.size W w') := Lib.hid fun A c W h1 h2 => by have := trace_Text_ok A c exL W h1 (by decide) exL_ok h2; rw [exT] at this; exact this
  have HC2 : Hid (∀ W, Errs W → Tab W.heap.size W → Calls Tryd.prog 14 #[.string ⟨#[53, 32, 100, 114, 111, 112, 112, 101, 100, 32, 50, 32, 51, 32, 100, 111, 119, 110, 32, 55, 10, 54, 32, 115, 116, 97, 116, 101, 32, 50, 32, 102, 105, 110, 97, 108, 10]⟩] W (RetEP W (exL, 0, 0))) := Lib.hid fun W h1 h2 => by have := trace_Parse exS (by decide) W h1 h2; rw [ex_parse] at this; exact this
  have HC3 : Hid (∀ W, Errs W → Tab W.heap.size W → Calls Tryd.prog 14 #[.string ⟨#[48, 54, 32, 115, 116, 97, 116, 101, 32, 50, 32, 102, 105, 110, 97, 108, 10]⟩] W (RetEP W ([], 1, 3))) := Lib.hid fun W h1 h2 => by have := trace_Parse badS (by decide) W h1 h2; rw [bad_parse] at this; exact this
  have HC4 : Hid (∀ A B c d W, RdE W A exL → RdE W B exL → Calls Tryd.prog 16 #[.slice A exL.length c, .slice B exL.length d] W fun e w' => e = .returned (.bool true) ∧ Below W.heap.size W w') := Lib.hid fun A B c d W h1 h2 => by
    have := ref55_Same A B c d exL exL W h1 h2 (by decide)
    rwa [sameE_refl] at this
  go_enter Tryd.func9, Tryd.ntmps9
  go_wp2_with (first
    | (go_at_call 26; refine (law55_example _).mono ?_; rintro e w1 ⟨Ax, cx, rfl, _, _, hrd, hb⟩; have HX := Lib.hid hrd; (try replace HP := Lib.hid (HP.out.below hb)); replace HB := Lib.hid (below_next HB.out hb); clear hb hrd)
    | (go_at_call 10; refine (HC1.out _ _ _ HX.out (tab_up HT.out HB.out HB.out.size)).mono ?_; rintro e w2 ⟨rfl, hb⟩; replace HB := Lib.hid (below_next HB.out hb); clear hb)
    | (go_at_call 14; (with_reducible refine (HC2.out _ (HE.out.up HB.out) (tab_up HT.out HB.out HB.out.size)).mono ?_); rintro e w3 ⟨Ap, cp, rfl, _, _, hrd, hb⟩; have HP := Lib.hid hrd; replace HB := Lib.hid (below_next HB.out hb); clear hb hrd)
    | (go_at_call 14; (with_reducible refine (HC3.out _ (HE.out.up HB.out) (tab_up HT.out HB.out HB.out.size)).mono ?_); rintro e w4 ⟨Aq, cq, rfl, _, _, _, hb⟩; replace HP := Lib.hid (HP.out.below hb); replace HB := Lib.hid (below_next HB.out hb); clear hb)
    | (go_at_call 16; refine (HC4.out _ _ _ _ _ HP.out HX.out).mono ?_; rintro e w5 ⟨rfl, hb⟩; replace HB := Lib.hid (below_next HB.out hb); clear hb))
  go_ret
  exact ⟨rfl, HB.out⟩

end Go.Proofs.YtjcnjnonhncelaaDoor
