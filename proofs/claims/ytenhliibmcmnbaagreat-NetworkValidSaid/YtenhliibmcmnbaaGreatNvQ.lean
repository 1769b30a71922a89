/-
  waypointlaw54.pair; the methods of a network that has just been made.
-/
import Derived.Test.YtenhliibmcmnbaaGreatNvP
namespace Go.Proofs.YtenhliibmcmnbaaGreat
set_option linter.unusedSimpArgs false
set_option linter.unusedVariables false
open Go.RowKit Go.Sort
def lk2 : Lnk := ⟨0, 1, 1, 1, 1, 2, 0⟩
def uPair : SuN := ⟨⟨2, [], [lk2]⟩, 2, 5, 2, 2, 2, 0, 5, [], [], []⟩
theorem uPair_ok : suOk uPair = true := by decide
section
variable {w : World}
/-- The link of the pair, whatever is stored into another block. -/
def PK (w : World) (p2 kb : Nat) (W : World) : Prop := p2 ≠ kb ∧ w.heap.size ≤ p2 ∧ Bl 118 kb #[.int .i64 0, .int .i64 1, .int .i64 1, .int .i64 1, .int .i64 1, .int .i64 2, .int .i64 0] W ∧ Below w.heap.size w W ∧ ∃ cs, Bl 66 p2 cs W
theorem PK.set {w W : World} {p2 kb j : Nat} {u : Value} (h : PK w p2 kb W) : PK w p2 kb (W.setCell ⟨p2, j, none⟩ u) := by
 obtain ⟨hn, hp, h1, h2, cs, h3⟩ := h
 exact ⟨hn, hp, h1.other (fun e => hn e.symm) u, Bset h2 hp, _, h3.set j u rfl⟩
theorem PK.set13 {w W : World} {p2 kb : Nat} (x0 x1 x2 x3 x4 x5 x6 x7 x8 x9 x10 x11 x12 : Value) (h : PK w p2 kb W) : PK w p2 kb (((((((((((((W.setCell ⟨p2, 0, none⟩ x0).setCell ⟨p2, 1, none⟩ x1).setCell ⟨p2, 2, none⟩ x2).setCell ⟨p2, 3, none⟩ x3).setCell ⟨p2, 4, none⟩ x4).setCell ⟨p2, 5, none⟩ x5).setCell ⟨p2, 6, none⟩ x6).setCell ⟨p2, 7, none⟩ x7).setCell ⟨p2, 8, none⟩ x8).setCell ⟨p2, 9, none⟩ x9).setCell ⟨p2, 10, none⟩ x10).setCell ⟨p2, 11, none⟩ x11).setCell ⟨p2, 12, none⟩ x12) :=
 (PK.set (PK.set (PK.set (PK.set (PK.set (PK.set (PK.set (PK.set (PK.set (PK.set (PK.set (PK.set (PK.set h)))))))))))))
set_option maxRecDepth 100000 in
set_option maxHeartbeats 2000000 in
theorem law_pair : Calls Tryz.prog 19 #[.slice none 0 0] w fun e w' => ∃ A2 k2, e = .returned (.agg (suC uPair none A2 none none none 0 k2 0 0 0)) ∧ SuAt w' none A2 none none none uPair ∧ Below w.heap.size w w' := by
 have H3 := Lib.hid (three_boxes w #[.int .i64 0, .slice none 0 0, .slice none 0 0, .int .i64 0, .int .i64 0, .int .i64 0, .int .i64 0, .int .i64 0, .int .i64 0, .int .i64 0, .slice none 0 0, .slice none 0 0, .slice none 0 0] #[.int .i64 0, .int .i64 1, .int .i64 1, .int .i64 1, .int .i64 1, .int .i64 2, .int .i64 0] #[.int .i64 2, .slice none 0 0, .slice (some ⟨w.heap.size + 1, 0, none⟩) 1 1] 66 118 25)
 have HQ := Lib.hid (show PK w w.heap.size (w.heap.size + 1) _ from ⟨by omega, Nat.le_refl _, H3.out.2.1, H3.out.2.2.2, _, H3.out.1⟩)
 go_enter Tryz.func19, Tryz.ntmps19
 go_upto_region 2 with fail
 refine wp_named4 (fun Y => ∃ p2 kb tb, p2 = w.heap.size ∧ kb = w.heap.size + 1 ∧ tb = w.heap.size + 1 + 1 ∧ Bl 66 p2 #[.int .i64 0, .slice none 0 0, .slice none 0 0, .int .i64 0, .int .i64 0, .int .i64 0, .int .i64 0, .int .i64 0, .int .i64 0, .int .i64 0, .slice none 0 0, .slice none 0 0, .slice none 0 0] Y ∧ Bl 25 tb #[.int .i64 2, .slice none 0 0, .slice (some ⟨kb, 0, none⟩) 1 1] Y ∧ PK w p2 kb Y) ⟨_, _, _, rfl, rfl, rfl, H3.out.1, H3.out.2.2.1, HQ.out⟩ ?_
 rintro W1 ⟨p2, kb, tb, hp, hk, ht, hY1, hY2, hY3⟩
 rw [← ht, ← hk, ← hp]
 clear hp hk ht H3 HQ
 obtain ⟨r0, r1, r2, r3, r4, r5, r6, r7, r8, r9, r10, r11, r12, fr⟩ := hY1.c13
 obtain ⟨t0, t1, t2, ft⟩ := hY2.c3
 have HQ := Lib.hid hY3
 clear hY1 hY2 hY3
 go_wp2_with fail
 have hq := PK.set13 (.int .i64 2) (.slice none 0 0) (.slice (some ⟨kb, 0, none⟩) 1 1) (.int .i64 2) (.int .i64 5) (.int .i64 2) (.int .i64 2) (.int .i64 2) (.int .i64 0) (.int .i64 5) (.slice none 0 0) (.slice none 0 0) (.slice none 0 0) HQ.out
 obtain ⟨-, -, q1, q2, -⟩ := hq
 have hrd : RdL _ (some ⟨kb, 0, none⟩) [lk2] := .inr ⟨kb, 0, rfl, fun k l hl => by
  match k, hl with
  | 0, hl =>
   obtain rfl := Option.some.inj hl
   obtain ⟨q0, q1, q2, q3, q4, q5, q6, -⟩ := q1.c7
   exact ⟨q0, q1, q2, q3, q4, q5, q6⟩
  | k + 1, hl => simp at hl⟩
 exact bodyPost_ret (v := .agg #[.int .i64 2, .slice none 0 0, .slice (some ⟨kb, 0, none⟩) 1 1, .int .i64 2, .int .i64 5, .int .i64 2, .int .i64 2, .int .i64 2, .int .i64 0, .int .i64 5, .slice none 0 0, .slice none 0 0, .slice none 0 0]) (by simp [results, Tryz.results19, go_sem, r0, r1, r2, r3, r4, r5, r6, r7, r8, r9, r10, r11, r12]) rfl ⟨some ⟨kb, 0, none⟩, 1, rfl, ⟨⟨.inl rfl, hrd⟩, ⟨.inl rfl, fun x hx => by cases hx⟩, ⟨.inl rfl, fun x hx => by cases hx⟩, .inl rfl⟩, q2⟩
end
end Go.Proofs.YtenhliibmcmnbaaGreat
