/-
  The originator of a node that has just been made, and its first advertisement.
-/
import Derived.Test.YtenhliibmcmnbaaGreatRtA
import Derived.Test.YtenhliibmcmnbaaGreatClone
namespace Go.Proofs.YtenhliibmcmnbaaGreat
set_option linter.unusedSimpArgs false
set_option linter.unusedVariables false
open Go.RowKit Go.Sort

set_option maxRecDepth 100000 in
theorem cont_clone0 (ov : Bool) (w : World) : Calls Tryz.prog 190 #[.agg #[.bool ov, .slice none 0 0, .slice none 0 0]] w fun e w' => e = .returned (.agg #[.bool ov, .slice none 0 0, .slice none 0 0]) ∧ Below w.heap.size w w' := by
  go_enter Tryz.func190, Tryz.ntmps190
  go_wp2_with (first | (go_at_call 219; refine (clone0_Adjacency _ _).mono ?_; rintro e w' ⟨rfl, rfl⟩) | (go_at_call 220; refine (clone0_Prefix _ _).mono ?_; rintro e w' ⟨rfl, rfl⟩))
  exact bodyPost_ret (v := .agg #[.bool ov, .slice none 0 0, .slice none 0 0]) (by simp [results, Tryz.results190, go_sem]) rfl ⟨rfl, below_two _ _ _⟩
set_option maxRecDepth 100000 in
theorem origin_adv0 (ob : Nat) (v seq age : Int) (ov : Bool) (w : World) (h3 : w.cell? ⟨ob, 3, none⟩ = some (.int .i64 v)) : Calls Tryz.prog 188 #[.pointer (some ⟨ob, 0, none⟩), .agg #[.bool ov, .slice none 0 0, .slice none 0 0], .int .i64 seq, .int .i64 age] w fun e w' => e = .returned (.agg #[.int .i64 v, .int .i64 seq, .int .i64 age, .bool ov, .slice none 0 0, .slice none 0 0]) ∧ Below w.heap.size w w' := by
  have hlt := block_lt_of_cell h3
  go_enter Tryz.func188, Tryz.ntmps188
  go_wp2_with (first | (go_at_call 190; refine (cont_clone0 _ _).mono ?_; rintro e w1 ⟨rfl, hb⟩; obtain ⟨B1, B2⟩ := two_new w #[.bool ov, .slice none 0 0, .slice none 0 0] #[.int .i64 0, .int .i64 0, .int .i64 0, .bool false, .slice none 0 0, .slice none 0 0] 247 179; replace B1 := B1.up hb; replace B2 := B2.up hb; have HB := Lib.hid ((below_two w _ _).trans (hb.mono (by simp; omega))); replace h3 := cell_up HB.out h3; clear hb; obtain ⟨c0, c1, c2, fc⟩ := B1.c3; obtain ⟨d0, d1, d2, d3, d4, d5, fd⟩ := B2.c6; have HB1 := Lib.hid B1; have HB2 := Lib.hid B2; clear B1 B2))
  go_region
  go_wp2_with fail
  exact bodyPost_ret (v := .agg #[.int .i64 v, .int .i64 seq, .int .i64 age, .bool ov, .slice none 0 0, .slice none 0 0]) (by simp [results, Tryz.results188, go_sem, d0, d1, d2, d3, d4, d5]) rfl ⟨rfl, by (repeat' (first | (with_reducible exact HB.out) | (with_reducible refine Bset ?_ ?_) | (with_reducible refine Bdrw ?_) | (with_reducible refine Bbox ?_ ?_) | omega | (simp; done) | (simp; omega)))⟩
set_option maxRecDepth 100000 in
theorem lsa_Valid0 (v seq age : Int) (ov : Bool) (w : World) (hv : isN 64 v = true) (h1 : inR seq 1 1073741824 = true) (h2 : isN 3600 age = true) : Calls Tryz.prog 169 #[.agg #[.int .i64 v, .int .i64 seq, .int .i64 age, .bool ov, .slice none 0 0, .slice none 0 0]] w fun e w' => e = .returned (.bool true) ∧ Below w.heap.size w w' := by
  have g1 : inR v 0 63 = true := by rw [isN_true] at hv; rw [inR_true]; omega
  have g2 : inR age 0 3600 = true := by rw [isN_true] at h2; rw [inR_true]; omega
  have g3 : (age == 3600) = false := by rw [isN_true] at h2; simp; omega
  clear hv h2
  go_enter Tryz.func169, Tryz.ntmps169
  go_wp2_with (go_at_call 221; refine (lsa_within _ _ _ _).mono ?_; rintro e w' ⟨rfl, rfl⟩)
  go_loopw [55] (fun i wr => i = .int .i64 0 ∧ wr = w.alloc (.cells #[.int .i64 v, .int .i64 seq, .int .i64 age, .bool ov, .slice none 0 0, .slice none 0 0] 179)) (fun _ _ => 0)
  case atStart => exact ⟨rfl, rfl⟩
  case round =>
    obtain ⟨rfl, rfl⟩ := hrel
    go_wp2_with fail
    go_loopw [101] (fun i wr => i = .int .i64 0 ∧ wr = w.alloc (.cells #[.int .i64 v, .int .i64 seq, .int .i64 age, .bool ov, .slice none 0 0, .slice none 0 0] 179)) (fun _ _ => 0)
    case atStart => exact ⟨rfl, rfl⟩
    case round =>
      obtain ⟨rfl, rfl⟩ := hrel
      go_wp2_with fail
      go_ret
      exact ⟨rfl, below_box _ _⟩
set_option maxRecDepth 100000 in
theorem origin_make (ob : Nat) (c0 c1 c2 c3 c5 c6 : Value) (fl : Int) (w : World) (h : Bl 249 ob #[c0, c1, c2, c3, .int .i64 fl, c5, c6] w) (hf : 0 ≤ fl ∧ fl ≤ 1073741824) : Calls Tryz.prog 191 #[.pointer (some ⟨ob, 0, none⟩)] w fun e w' => e = .returned (.tuple #[]) ∧ Bl 249 ob #[c0, c1, c2, c3, .int .i64 (fl + 1), .bool true, .int .i64 0] w' ∧ Kp [ob] w w' := by
  obtain ⟨h1, h2⟩ := hf
  obtain ⟨b0, b1, b2, b3, b4, b5, b6, fb⟩ := h.c7
  have HB := Lib.hid h
  clear h
  go_enter Tryz.func191, Tryz.ntmps191
  go_wp2
  go_end0
  exact ⟨rfl, ((HB.out.set 4 _ rfl).set 5 _ rfl).set 6 _ rfl, by (repeat' (first | (with_reducible exact Kp.refl _ _) | (with_reducible refine Kset ?_ ?_) | (with_reducible refine Kp.drew ?_) | (with_reducible refine Kp.alloc ?_ _) | (left; simp; done) | (right; first | omega | (simp; done) | (simp; omega))))⟩
set_option maxRecDepth 100000 in
theorem origin_Set0 (ob : Nat) (v : Int) (ov : Bool) (w : World) (h : Bl 249 ob #[.bool false, .slice none 0 0, .slice none 0 0, .int .i64 v, .int .i64 0, .bool false, .int .i64 0] w) (hv : isN 64 v = true) :
    Calls Tryz.prog 134 #[.pointer (some ⟨ob, 0, none⟩), .agg #[.bool ov, .slice none 0 0, .slice none 0 0]] w fun e w' => e = .returned (.tuple #[.bool true, .int .i64 0]) ∧ Bl 249 ob #[.bool ov, .slice none 0 0, .slice none 0 0, .int .i64 v, .int .i64 1, .bool true, .int .i64 0] w' ∧ Kp [ob] w w' := by
  have HB := Lib.hid (h.up (below_box w (.cells #[.bool ov, .slice none 0 0, .slice none 0 0] 247)))
  have hlt := h.lt
  have HX := Lib.hid (Bl.new w #[.bool ov, .slice none 0 0, .slice none 0 0] 247)
  have HK := Lib.hid ((Kp.refl [ob] w).alloc (.cells #[.bool ov, .slice none 0 0, .slice none 0 0] 247))
  have HV := Lib.hid hv
  clear h hv
  obtain ⟨b0, b1, b2, b3, b4, b5, b6, fb⟩ := HB.out.c7
  obtain ⟨x0, x1, x2, fx⟩ := HX.out.c3
  go_enter Tryz.func134, Tryz.ntmps134
  go_wp2_with (first | (go_at_call 188; refine (origin_adv0 ob v _ _ _ _ b3).mono ?_; rintro e w1 ⟨rfl, hb⟩; replace HB := Lib.hid (HB.out.up hb); replace HX := Lib.hid (HX.out.up hb); replace HK := Lib.hid (HK.out.next hb); clear hb b0 b1 b2 b3 b4 b5 b6 fb x0 x1 x2 fx; obtain ⟨b0, b1, b2, b3, b4, b5, b6, fb⟩ := HB.out.c7; obtain ⟨x0, x1, x2, fx⟩ := HX.out.c3) | (go_at_call 169; refine (lsa_Valid0 v 1 0 ov _ HV.out rfl rfl).mono ?_; rintro e w2 ⟨rfl, hb⟩; replace HB := Lib.hid (HB.out.up hb); replace HX := Lib.hid (HX.out.up hb); replace HK := Lib.hid (HK.out.next hb); clear hb b0 b1 b2 b3 b4 b5 b6 fb x0 x1 x2 fx; obtain ⟨b0, b1, b2, b3, b4, b5, b6, fb⟩ := HB.out.c7; obtain ⟨x0, x1, x2, fx⟩ := HX.out.c3))
  go_quiet (fail)
  go_wp2_with (first | (go_at_call 190; refine (cont_clone0 _ _).mono ?_; rintro e w3 ⟨rfl, hb⟩; replace hb : Below w2.heap.size w2 w3 := (below_drw (Below.refl _ _) _).trans hb; replace HB := Lib.hid (HB.out.up hb); replace HX := Lib.hid (HX.out.up hb); replace HK := Lib.hid (HK.out.next hb); clear hb b0 b1 b2 b3 b4 b5 b6 fb x0 x1 x2 fx; obtain ⟨b0, b1, b2, b3, b4, b5, b6, fb⟩ := HB.out.c7; obtain ⟨x0, x1, x2, fx⟩ := HX.out.c3) | (go_at_call 191; refine (origin_make ob _ _ _ _ _ _ 0 _ (((HB.out.set 0 _ rfl).set 1 _ rfl).set 2 _ rfl) (by decide)).mono ?_; rintro e w4 ⟨rfl, hB, hK⟩))
  go_ret2
  exact ⟨rfl, hB, (Kp.trans (by (repeat' (first | (with_reducible exact HK.out) | (with_reducible refine Kset ?_ ?_) | (with_reducible refine Kp.drew ?_) | (with_reducible refine Kp.alloc ?_ _) | (left; simp; done) | (right; first | omega | (simp; done) | (simp; omega))))) hK)⟩

end Go.Proofs.YtenhliibmcmnbaaGreat
