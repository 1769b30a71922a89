/-
  The first advertisement of a node: Spread without neighbours, publish, originate.
-/
import Derived.Test.YtenhliibmcmnbaaGreatRtD
namespace Go.Proofs.YtenhliibmcmnbaaGreat
set_option linter.unusedSimpArgs false
set_option linter.unusedVariables false
open Go.RowKit Go.Sort

set_option maxRecDepth 100000 in
set_option maxHeartbeats 2000000 in
theorem flood_Spread0 (fb mb : Nat) (n v ex : Int) (ov : Bool) (w : World) (hv : isN 64 v = true) (h : Bl 245 fb #[.int .i64 n, .map (some mb)] w) (hm : MapAt Tryz.prog 3 mb [] w) :
    Calls Tryz.prog 116 #[.pointer (some ⟨fb, 0, none⟩), .agg #[.int .i64 v, .int .i64 1, .int .i64 0, .bool ov, .slice none 0 0, .slice none 0 0], .int .i64 ex] w fun e w' => e = .returned (.int .i64 0) ∧ Below w.heap.size w w' := by
  have HF := Lib.hid (h.up (below_box w (.cells #[.int .i64 v, .int .i64 1, .int .i64 0, .bool ov, .slice none 0 0, .slice none 0 0] 179)))
  have HM := Lib.hid (hm.up (below_box w (.cells #[.int .i64 v, .int .i64 1, .int .i64 0, .bool ov, .slice none 0 0, .slice none 0 0] 179)))
  have HB := Lib.hid (below_box w (.cells #[.int .i64 v, .int .i64 1, .int .i64 0, .bool ov, .slice none 0 0, .slice none 0 0] 179))
  have HV := Lib.hid hv
  clear h hm hv
  go_enter Tryz.func116, Tryz.ntmps116
  go_wp2_with (first | (go_at_call 169; refine (lsa_Valid0 v 1 0 ov _ HV.out rfl rfl).mono ?_; rintro e w2 ⟨rfl, hb⟩; replace HF := Lib.hid (HF.out.up hb); replace HM := Lib.hid (HM.out.up hb); replace HB := Lib.hid (below_next HB.out hb); clear hb) | (go_at_call 170; refine (flood_Links0 fb mb n _ HF.out HM.out).mono ?_; rintro e w3 ⟨rfl, hb⟩; replace HB := Lib.hid (below_next HB.out hb); clear hb))
  go_loopw [19] (fun i wr => i = .int .i64 0 ∧ Hid (Below w.heap.size w wr)) (fun _ _ => 0)
  case atStart => exact ⟨rfl, HB⟩
  case round =>
    obtain ⟨rfl, HB2⟩ := hrel
    go_wp2_with fail
    go_ret
    exact ⟨rfl, HB2.out⟩
/-- The parts of a speaker that publish uses: the database, the flooder, the originator. -/
structure Pts (sb db mb fb nb ob : Nat) (n : Int) (x0 x1 x2 x3 x4 x5 x6 x7 x8 x9 x10 x11 : Value) (w : World) : Prop where
  s : Bl 160 sb #[x0, x1, x2, x3, x4, x5, x6, x7, x8, x9, x10, x11, .pointer (some ⟨db, 0, none⟩), .pointer (some ⟨fb, 0, none⟩), .pointer (some ⟨ob, 0, none⟩)] w
  d : Bl 242 db #[.map (some mb)] w
  f : Bl 245 fb #[.int .i64 n, .map (some nb)] w
  m : MapAt Tryz.prog 3 nb [] w
  ne : db ≠ mb ∧ fb ≠ mb ∧ nb ≠ mb ∧ sb ≠ mb ∧ ob ≠ mb ∧ db ≠ ob ∧ fb ≠ ob ∧ nb ≠ ob ∧ sb ≠ ob
section
variable {sb db mb fb nb ob : Nat} {n : Int} {x0 x1 x2 x3 x4 x5 x6 x7 x8 x9 x10 x11 : Value} {w : World}
theorem Pts.up (h : Pts sb db mb fb nb ob n x0 x1 x2 x3 x4 x5 x6 x7 x8 x9 x10 x11 w) {w' : World} (hb : Below w.heap.size w w') : Pts sb db mb fb nb ob n x0 x1 x2 x3 x4 x5 x6 x7 x8 x9 x10 x11 w' := ⟨h.s.up hb, h.d.up hb, h.f.up hb, h.m.up hb, h.ne⟩
theorem Pts.kp (h : Pts sb db mb fb nb ob n x0 x1 x2 x3 x4 x5 x6 x7 x8 x9 x10 x11 w) {w' : World} {X : List Nat} (hb : Kp X w w') (hX : ∀ b ∈ X, b = mb ∨ b = ob) : Pts sb db mb fb nb ob n x0 x1 x2 x3 x4 x5 x6 x7 x8 x9 x10 x11 w' := by
  obtain ⟨n1, n2, n3, n4, n5, n6, n7, n8, n9⟩ := h.ne
  exact ⟨h.s.kp hb (fun hm => (hX _ hm).elim n4 n9), h.d.kp hb (fun hm => (hX _ hm).elim n1 n6), h.f.kp hb (fun hm => (hX _ hm).elim n2 n7), h.m.kp hb (fun hm => (hX _ hm).elim n3 n8), h.ne⟩
set_option maxRecDepth 100000 in
set_option maxHeartbeats 2000000 in
theorem speaker_publish0 (v : Int) (ov : Bool) (hv : isN 64 v = true) (h : Pts sb db mb fb nb ob n x0 x1 x2 x3 x4 x5 x6 x7 x8 x9 x10 x11 w) (hm : MapAt Tryz.prog 3 mb [] w) (ho : Bl 249 ob #[.bool ov, .slice none 0 0, .slice none 0 0, .int .i64 v, .int .i64 1, .bool true, .int .i64 0] w) :
    Calls Tryz.prog 118 #[.pointer (some ⟨sb, 0, none⟩)] w fun e w' => e = .returned (.tuple #[]) ∧ MapAt Tryz.prog 3 mb [(.int .i64 v, heldV v ov)] w' ∧ Kp [mb] w w' := by
  obtain ⟨b0, b1, b2, b3, b4, b5, b6, b7, b8, b9, b10, b11, b12, b13, b14, fb0⟩ := h.s.c15
  have HP := Lib.hid h
  have HM := Lib.hid hm
  have HO := Lib.hid ho
  have HV := Lib.hid hv
  clear b0 b1 b2 b3 b4 b5 b6 b7 b8 b9 b10 b11 b12 b13 fb0 h hm ho hv
  go_enter Tryz.func118, Tryz.ntmps118
  go_wp2_with (first | (go_at_call 173; refine (origin_Current1 ob v ov _ HO.out).mono ?_; rintro e w1 ⟨rfl, hb⟩; have HB := Lib.hid (Kp.of (X := [mb]) hb); replace HP := Lib.hid (HP.out.up hb); replace HM := Lib.hid (HM.out.up hb); clear b14 hb))
  have HX := Lib.hid (Bl.new w1 #[.int .i64 v, .int .i64 1, .int .i64 0, .bool ov, .slice none 0 0, .slice none 0 0] 179)
  replace HP := Lib.hid (HP.out.up (below_box w1 (.cells #[.int .i64 v, .int .i64 1, .int .i64 0, .bool ov, .slice none 0 0, .slice none 0 0] 179)))
  have hmx := HM.out.lt
  replace HM := Lib.hid (HM.out.up (below_box w1 (.cells #[.int .i64 v, .int .i64 1, .int .i64 0, .bool ov, .slice none 0 0, .slice none 0 0] 179)))
  replace HB := Lib.hid (HB.out.alloc (.cells #[.int .i64 v, .int .i64 1, .int .i64 0, .bool ov, .slice none 0 0, .slice none 0 0] 179))
  have hsz : w1.heap.size < (w1.alloc (.cells #[.int .i64 v, .int .i64 1, .int .i64 0, .bool ov, .slice none 0 0, .slice none 0 0] 179)).heap.size := by simp
  generalize hW : w1.alloc (.cells #[.int .i64 v, .int .i64 1, .int .i64 0, .bool ov, .slice none 0 0, .slice none 0 0] 179) = W2 at HX HP HM HB hsz ⊢
  generalize hxb : w1.heap.size = xb at HX hsz hmx ⊢
  clear hW hxb
  obtain ⟨b0, b1, b2, b3, b4, b5, b6, b7, b8, b9, b10, b11, b12, b13, b14, fb0⟩ := HP.out.s.c15
  clear b0 b1 b2 b3 b4 b5 b6 b7 b8 b9 b10 b11 b14 fb0
  obtain ⟨u0, u1, u2, u3, u4, u5, fx⟩ := HX.out.c6
  go_region_with (go_at_call 145; refine (lsdb_Install0 db mb v ov _ HV.out (by exact HP.out.d) (by exact HM.out)).mono ?_; rintro e w3 ⟨rfl, hm3, hk3⟩; have HM3 := Lib.hid hm3; have HB3 := Lib.hid ((HB.out.drew).trans hk3); have HP3 := Lib.hid (HP.out.kp (X := [mb]) (((Kp.refl [mb] W2).drew).trans hk3) (by simp)); have HX3 := Lib.hid (HX.out.kp (X := [mb]) (((Kp.refl [mb] W2).drew).trans hk3) (by simp; omega)); clear hm3 hk3)
  all_goals
    clear u0 u1 u2 u3 u4 u5 fx b12 b13
    obtain ⟨b0, b1, b2, b3, b4, b5, b6, b7, b8, b9, b10, b11, b12, b13, b14, fb0⟩ := HP3.out.s.c15
    clear b0 b1 b2 b3 b4 b5 b6 b7 b8 b9 b10 b11 b12 b14 fb0
    obtain ⟨u0, u1, u2, u3, u4, u5, fx⟩ := HX3.out.c6
    go_wp2_with fail
    go_region_with (go_at_call 116; refine (flood_Spread0 fb nb n v _ ov _ HV.out (by exact HP3.out.f) (by exact HP3.out.m)).mono ?_; rintro e w4 ⟨rfl, hb⟩; have HB4 := Lib.hid (HB3.out.drew.next hb); have HM4 := Lib.hid (MapAt.up (w := w3.drew) HM3.out hb); clear hb)
    all_goals
      go_wp2_with fail
      go_end0
      exact ⟨rfl, HM4.out, HB4.out⟩
end
end Go.Proofs.YtenhliibmcmnbaaGreat
