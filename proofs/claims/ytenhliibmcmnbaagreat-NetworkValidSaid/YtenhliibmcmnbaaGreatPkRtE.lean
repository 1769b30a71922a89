/-
  The first advertisement of a node: Spread without neighbours, publish, originate.
  The first advertisement of a node: originate. Lists of structs, flat.
  channel.New.
  waypointref52.Valid, as the setup's validity asks it.
  Contracts of component.within, component.Valid, waypointref10.Valid, waypointref10.Of: what each returns, for every topology and component.
  An act of a setup; network.validAct.
  component.links: what its iterator yields: the numbers of the links of a component, in increasing order.
  component.Arcs: what it returns, for every topology and component.
  waypointref10.Valid, Of, Arcs: what each returns, for every topology and component.
-/
import Derived.Test.YtenhliibmcmnbaaGreatPkKp
import Derived.Test.YtenhliibmcmnbaaGreatPkBase
import Derived.RangeFuncNested
import Derived.RangeFuncBound
import Derived.RangeFuncCalls
import Derived.RangeFuncLeaves
import Derived.RangeFuncBox
import Derived.Shelf.Abstract
import Derived.OwnWalkIn
import Derived.TacticsInMore
import Derived.LoopNIn
import Derived.LoopIn
import Derived.Maps.AppendAt
namespace Go.Proofs.YtenhliibmcmnbaaGreat
set_option linter.unusedSimpArgs false
set_option linter.unusedVariables false
open Go.RowKit Go.Sort
set_option maxRecDepth 100000 in
set_option maxHeartbeats 2000000 in
theorem flood_Spread0 (fb mb : Nat) (n v ex : Int) (ov : Bool) (w : World) (hv : isN 64 v = true) (h : Bl 245 fb #[.int .i64 n, .map (some mb)] w) (hm : MapAt Tryz.prog 3 mb [] w) :
  Calls Tryz.prog 116 #[.pointer (some ⟨fb, 0, none⟩), .agg #[.int .i64 v, .int .i64 1, .int .i64 0, .bool ov, .slice none 0 0, .slice none 0 0], .int .i64 ex] w fun e w' => e = .returned (.int .i64 0) ∧ Below w.heap.size w w' := by
 have HF := Lib.hid (h.up (below_box w (.cells #[.int .i64 v, .int .i64 1, .int .i64 0, .bool ov, .slice none 0 0, .slice none 0 0] 179)))
 have HM := Lib.hid (hm.up (below_box w (.cells #[.int .i64 v, .int .i64 1, .int .i64 0, .bool ov, .slice none 0 0, .slice none 0 0] 179)))
 have HB := Lib.hid (below_box w (.cells #[.int .i64 v, .int .i64 1, .int .i64 0, .bool ov, .slice none 0 0, .slice none 0 0] 179))
 have HV := Lib.hid hv
 clear h hm hv
 go_enter Tryz.func116, Tryz.ntmps116
 go_wp2_with (first | (go_at_call 169; refine (lsa_Valid0 v 1 0 ov _ HV.out rfl rfl).mono ?_; rintro e w2 ⟨rfl, hb⟩; replace HF := Lib.hid (HF.out.up hb); replace HM := Lib.hid (HM.out.up hb); replace HB := Lib.hid (below_next HB.out hb); clear hb) | (go_at_call 170; refine (flood_Links0 fb mb n _ HF.out HM.out).mono ?_; rintro e w3 ⟨rfl, hb⟩; replace HB := Lib.hid (below_next HB.out hb); clear hb))
 go_loopw [19] (fun i wr => i = .int .i64 0 ∧ Hid (Below w.heap.size w wr)) (fun _ _ => 0)
 case atStart => exact ⟨rfl, HB⟩
 case round =>
  obtain ⟨rfl, HB2⟩ := hrel
  go_wp2_with fail
  go_ret
  exact ⟨rfl, HB2.out⟩
/-- The parts of a speaker that publish uses: the database, the flooder, the originator. -/
structure Pts (sb db mb fb nb ob : Nat) (n : Int) (x0 x1 x2 x3 x4 x5 x6 x7 x8 x9 x10 x11 : Value) (w : World) : Prop where
 s : Bl 160 sb #[x0, x1, x2, x3, x4, x5, x6, x7, x8, x9, x10, x11, .pointer (some ⟨db, 0, none⟩), .pointer (some ⟨fb, 0, none⟩), .pointer (some ⟨ob, 0, none⟩)] w
 d : Bl 242 db #[.map (some mb)] w
 f : Bl 245 fb #[.int .i64 n, .map (some nb)] w
 m : MapAt Tryz.prog 3 nb [] w
 ne : db ≠ mb ∧ fb ≠ mb ∧ nb ≠ mb ∧ sb ≠ mb ∧ ob ≠ mb ∧ db ≠ ob ∧ fb ≠ ob ∧ nb ≠ ob ∧ sb ≠ ob
section
variable {sb db mb fb nb ob : Nat} {n : Int} {x0 x1 x2 x3 x4 x5 x6 x7 x8 x9 x10 x11 : Value} {w : World}
theorem Pts.up (h : Pts sb db mb fb nb ob n x0 x1 x2 x3 x4 x5 x6 x7 x8 x9 x10 x11 w) {w' : World} (hb : Below w.heap.size w w') : Pts sb db mb fb nb ob n x0 x1 x2 x3 x4 x5 x6 x7 x8 x9 x10 x11 w' := ⟨h.s.up hb, h.d.up hb, h.f.up hb, h.m.up hb, h.ne⟩
theorem Pts.kp (h : Pts sb db mb fb nb ob n x0 x1 x2 x3 x4 x5 x6 x7 x8 x9 x10 x11 w) {w' : World} {X : List Nat} (hb : Kp X w w') (hX : ∀ b ∈ X, b = mb ∨ b = ob) : Pts sb db mb fb nb ob n x0 x1 x2 x3 x4 x5 x6 x7 x8 x9 x10 x11 w' := by
 obtain ⟨n1, n2, n3, n4, n5, n6, n7, n8, n9⟩ := h.ne
 exact ⟨h.s.kp hb (fun hm => (hX _ hm).elim n4 n9), h.d.kp hb (fun hm => (hX _ hm).elim n1 n6), h.f.kp hb (fun hm => (hX _ hm).elim n2 n7), h.m.kp hb (fun hm => (hX _ hm).elim n3 n8), h.ne⟩
set_option maxRecDepth 100000 in
set_option maxHeartbeats 2000000 in
theorem speaker_publish0 (v : Int) (ov : Bool) (hv : isN 64 v = true) (h : Pts sb db mb fb nb ob n x0 x1 x2 x3 x4 x5 x6 x7 x8 x9 x10 x11 w) (hm : MapAt Tryz.prog 3 mb [] w) (ho : Bl 249 ob #[.bool ov, .slice none 0 0, .slice none 0 0, .int .i64 v, .int .i64 1, .bool true, .int .i64 0] w) :
  Calls Tryz.prog 118 #[.pointer (some ⟨sb, 0, none⟩)] w fun e w' => e = .returned (.tuple #[]) ∧ MapAt Tryz.prog 3 mb [(.int .i64 v, heldV v ov)] w' ∧ Kp [mb] w w' := by
 obtain ⟨b0, b1, b2, b3, b4, b5, b6, b7, b8, b9, b10, b11, b12, b13, b14, fb0⟩ := h.s.c15
 have HP := Lib.hid h
 have HM := Lib.hid hm
 have HO := Lib.hid ho
 have HV := Lib.hid hv
 clear b0 b1 b2 b3 b4 b5 b6 b7 b8 b9 b10 b11 b12 b13 fb0 h hm ho hv
 go_enter Tryz.func118, Tryz.ntmps118
 go_wp2_with (first | (go_at_call 173; refine (origin_Current1 ob v ov _ HO.out).mono ?_; rintro e w1 ⟨rfl, hb⟩; have HB := Lib.hid (Kp.of (X := [mb]) hb); replace HP := Lib.hid (HP.out.up hb); replace HM := Lib.hid (HM.out.up hb); clear b14 hb))
 have HX := Lib.hid (Bl.new w1 #[.int .i64 v, .int .i64 1, .int .i64 0, .bool ov, .slice none 0 0, .slice none 0 0] 179)
 replace HP := Lib.hid (HP.out.up (below_box w1 (.cells #[.int .i64 v, .int .i64 1, .int .i64 0, .bool ov, .slice none 0 0, .slice none 0 0] 179)))
 have hmx := HM.out.lt
 replace HM := Lib.hid (HM.out.up (below_box w1 (.cells #[.int .i64 v, .int .i64 1, .int .i64 0, .bool ov, .slice none 0 0, .slice none 0 0] 179)))
 replace HB := Lib.hid (HB.out.alloc (.cells #[.int .i64 v, .int .i64 1, .int .i64 0, .bool ov, .slice none 0 0, .slice none 0 0] 179))
 have hsz : w1.heap.size < (w1.alloc (.cells #[.int .i64 v, .int .i64 1, .int .i64 0, .bool ov, .slice none 0 0, .slice none 0 0] 179)).heap.size := by simp
 generalize hW : w1.alloc (.cells #[.int .i64 v, .int .i64 1, .int .i64 0, .bool ov, .slice none 0 0, .slice none 0 0] 179) = W2 at HX HP HM HB hsz ⊢
 generalize hxb : w1.heap.size = xb at HX hsz hmx ⊢
 clear hW hxb
 obtain ⟨b0, b1, b2, b3, b4, b5, b6, b7, b8, b9, b10, b11, b12, b13, b14, fb0⟩ := HP.out.s.c15
 clear b0 b1 b2 b3 b4 b5 b6 b7 b8 b9 b10 b11 b14 fb0
 obtain ⟨u0, u1, u2, u3, u4, u5, fx⟩ := HX.out.c6
 go_region_with (go_at_call 145; refine (lsdb_Install0 db mb v ov _ HV.out (by exact HP.out.d) (by exact HM.out)).mono ?_; rintro e w3 ⟨rfl, hm3, hk3⟩; have HM3 := Lib.hid hm3; have HB3 := Lib.hid ((HB.out.drew).trans hk3); have HP3 := Lib.hid (HP.out.kp (X := [mb]) (((Kp.refl [mb] W2).drew).trans hk3) (by simp)); have HX3 := Lib.hid (HX.out.kp (X := [mb]) (((Kp.refl [mb] W2).drew).trans hk3) (by simp; omega)); clear hm3 hk3)
 all_goals
  clear u0 u1 u2 u3 u4 u5 fx b12 b13
  obtain ⟨b0, b1, b2, b3, b4, b5, b6, b7, b8, b9, b10, b11, b12, b13, b14, fb0⟩ := HP3.out.s.c15
  clear b0 b1 b2 b3 b4 b5 b6 b7 b8 b9 b10 b11 b12 b14 fb0
  obtain ⟨u0, u1, u2, u3, u4, u5, fx⟩ := HX3.out.c6
  go_wp2_with fail
  go_region_with (go_at_call 116; refine (flood_Spread0 fb nb n v _ ov _ HV.out (by exact HP3.out.f) (by exact HP3.out.m)).mono ?_; rintro e w4 ⟨rfl, hb⟩; have HB4 := Lib.hid (HB3.out.drew.next hb); have HM4 := Lib.hid (MapAt.up (w := w3.drew) HM3.out hb); clear hb)
  all_goals
   go_wp2_with fail
   go_end0
   exact ⟨rfl, HM4.out, HB4.out⟩
end
end Go.Proofs.YtenhliibmcmnbaaGreat
namespace Go.Proofs.YtenhliibmcmnbaaGreat
set_option linter.unusedSimpArgs false
set_option linter.unusedVariables false
open Go.RowKit Go.Sort
theorem flat_at {α : Type} {enc : α → List Value} {s : Nat} (hs : ∀ x, (enc x).length = s) : ∀ (l : List α) (k : Nat) (e : α), l[k]? = some e → ∀ (j : Nat) (v : Value), (enc e)[j]? = some v → (l.flatMap enc)[k * s + j]? = some v
 | [], k, e, h => by simp at h
 | x :: l, 0, e, h => by
  intro j v hj
  simp only [List.getElem?_cons_zero, Option.some.injEq] at h
  subst h
  have hjl : j < (enc x).length := (List.getElem?_eq_some_iff.1 hj).1
  simp only [List.flatMap_cons, Nat.zero_mul, Nat.zero_add]
  rw [List.getElem?_append_left hjl]; exact hj
 | x :: l, k + 1, e, h => by
  intro j v hj
  have := flat_at hs l k e (by simpa using h) j v hj
  simp only [List.flatMap_cons] at this ⊢
  rw [List.getElem?_append_right (by rw [hs, Nat.succ_mul]; omega)]
  rw [show (k + 1) * s + j - (enc x).length = k * s + j by rw [hs, Nat.succ_mul]; omega]
  exact this
/-- An element of a list of structs that lies in memory. -/
theorem Rd.elem {α : Type} {enc : α → List Value} {s : Nat} (hs : ∀ x, (enc x).length = s) (hp : 0 < s) {w : World} {A : Option Addr} {l : List α} (h : Rd w A (l.flatMap enc)) {k : Nat} (hk : k < l.length) :
  ∃ b o, A = some ⟨b, o, none⟩ ∧ ∀ j v, (enc l[k])[j]? = some v → w.cell? ⟨b, o + k * s + j, none⟩ = some v := by
 have hx : (l.flatMap enc)[k * s + 0]? = some ((enc l[k])[0]'(by rw [hs]; exact hp)) := flat_at hs l k _ (List.getElem?_eq_getElem hk) 0 _ (List.getElem?_eq_getElem _)
 obtain ⟨b, o, hA, _⟩ := h.at_ hx
 refine ⟨b, o, hA, fun j v hv => ?_⟩
 obtain ⟨b', o', hA', hc⟩ := h.at_ (flat_at hs l k _ (List.getElem?_eq_getElem hk) j v hv)
 rw [hA] at hA'
 injection hA' with hA'
 injection hA' with h1 h2
 subst h1 h2
 rw [Nat.add_assoc]; exact hc
theorem MapAt.ne_bl {P : Program} {k T : TypeId} {b c : Nat} {L : List (Value × Value)} {cs : Array Value} {w : World} (h : MapAt P k b L w) (g : Bl T c cs w) : b ≠ c := by
 rintro rfl
 obtain ⟨es, clock, hb, _⟩ := h
 unfold Bl at g
 rw [hb] at g
 cases g
/-- A port whose neighbour has not been heard. -/
def portV (p : Int × Int × Int) : List Value := [.int .i64 p.1, .int .i64 p.2.1, .int .i64 p.2.2, .int .i64 0, .int .i64 0, .int .i64 0]
theorem portV_len (p : Int × Int × Int) : (portV p).length = 6 := rfl
section
variable {sb db mb fb nb ob : Nat} {n : Int} {x0 x1 x2 x3 x4 x5 x6 x7 x8 : Value} {w : World}
set_option maxRecDepth 100000 in
set_option maxHeartbeats 2000000 in
theorem speaker_originate0 (v : Int) (ov : Bool) (A : Option Addr) (ca : Nat) (ps : List (Int × Int × Int)) (hv : isN 64 v = true) (hl : ps.length ≤ 1000) (hr : Rd w A (ps.flatMap portV)) (h : Pts sb db mb fb nb ob n x0 x1 x2 x3 x4 x5 x6 x7 x8 (.slice A ps.length ca) (.bool ov) (.slice none 0 0) w)
  (hm : MapAt Tryz.prog 3 mb [] w) (ho : Bl 249 ob #[.bool false, .slice none 0 0, .slice none 0 0, .int .i64 v, .int .i64 0, .bool false, .int .i64 0] w) :
  Calls Tryz.prog 78 #[.pointer (some ⟨sb, 0, none⟩)] w fun e w' => e = .returned (.tuple #[]) ∧ MapAt Tryz.prog 3 mb [(.int .i64 v, heldV v ov)] w' ∧ Kp [mb, ob] w w' := by
 obtain ⟨b0, b1, b2, b3, b4, b5, b6, b7, b8, b9, b10, b11, b12, b13, b14, fb0⟩ := h.s.c15
 have HP := Lib.hid h
 have HM := Lib.hid hm
 have HO := Lib.hid ho
 have HV := Lib.hid hv
 have HR := Lib.hid hr
 have hsb := h.s.lt
 have n1 := Nat.ne_of_lt hsb
 have n2 := Nat.ne_of_gt hsb
 clear b0 b1 b2 b3 b4 b5 b6 b7 b8 b12 b13 fb0 h hm ho hv hr
 go_enter Tryz.func78, Tryz.ntmps78
 go_wp2_with fail
 go_region
 have HX := Lib.hid (Bl.new w #[.bool ov, .slice none 0 0, .slice none 0 0] 247 |>.up (Bdrw (Below.refl _ _)))
 replace HP := Lib.hid (HP.out.up (Bdrw (below_box w (.cells #[.bool ov, .slice none 0 0, .slice none 0 0] 247))))
 replace HM := Lib.hid (HM.out.up (Bdrw (below_box w (.cells #[.bool ov, .slice none 0 0, .slice none 0 0] 247))))
 replace HO := Lib.hid (HO.out.up (Bdrw (below_box w (.cells #[.bool ov, .slice none 0 0, .slice none 0 0] 247))))
 replace HR := Lib.hid (HR.out.below (Bdrw (below_box w (.cells #[.bool ov, .slice none 0 0, .slice none 0 0] 247))))
 have HB := Lib.hid (Bdrw (below_box w (.cells #[.bool ov, .slice none 0 0, .slice none 0 0] 247)))
 have hsz : w.heap.size < (w.alloc (.cells #[.bool ov, .slice none 0 0, .slice none 0 0] 247)).drew.heap.size := by simp
 clear b9 b10 b11 b14 n1 n2 hsb
 generalize hW : (w.alloc (.cells #[.bool ov, .slice none 0 0, .slice none 0 0] 247)).drew = W2 at HX HP HM HO HR HB hsz ⊢
 generalize hxb : w.heap.size = xb at HX HB hsz ⊢
 have HXB := Lib.hid hxb
 clear hW hxb
 obtain ⟨b0, b1, b2, b3, b4, b5, b6, b7, b8, b9, b10, b11, b12, b13, b14, fb0⟩ := HP.out.s.c15
 clear b0 b1 b2 b3 b4 b5 b6 b7 b8 b10 b11 b12 b13 b14 fb0
 go_wp2_with fail
 go_loopw [21] (fun i wr => ∃ k : Nat, k ≤ ps.length ∧ i = .int .i64 k ∧ Hid (Below W2.heap.size W2 wr)) (fun i _ => ps.length - (intOf i).toNat)
 case atStart => exact ⟨0, Nat.zero_le _, rfl, Lib.hid (Below.refl _ _)⟩
 case round =>
  obtain ⟨k, hk, rfl, HW⟩ := hrel
  by_cases hlt : k < ps.length
  ·obtain ⟨b, o, rfl, hc⟩ := Rd.elem portV_len (by decide) (HR.out.below HW.out) hlt
   generalize ps[k] = p at hc
   obtain ⟨p1, p2, p3⟩ := p
   have q0 : wr.cell? ⟨b, o + k * 6, none⟩ = some (.int .i64 p1) := hc 0 _ rfl
   have q1 : wr.cell? ⟨b, o + k * 6 + 1, none⟩ = some (.int .i64 p2) := hc 1 _ rfl
   have q2 : wr.cell? ⟨b, o + k * 6 + 2, none⟩ = some (.int .i64 p3) := hc 2 _ rfl
   have q3 : wr.cell? ⟨b, o + k * 6 + 3, none⟩ = some (.int .i64 0) := hc 3 _ rfl
   have q4 : wr.cell? ⟨b, o + k * 6 + 4, none⟩ = some (.int .i64 0) := hc 4 _ rfl
   have q5 : wr.cell? ⟨b, o + k * 6 + 5, none⟩ = some (.int .i64 0) := hc 5 _ rfl
   clear hc
   go_wp2_with fail
   go_roundw
   case rel => exact ⟨k + 1, by omega, by go_num, Lib.hid (below_next HW.out (below_box _ _))⟩
   case measure => simp [intOf]; omega
  ·go_wp2_with fail
   replace HP := Lib.hid (HP.out.up HW.out)
   replace HM := Lib.hid (HM.out.up HW.out)
   replace HO := Lib.hid (HO.out.up HW.out)
   replace HX := Lib.hid (HX.out.up HW.out)
   replace HB := Lib.hid (HB.out.trans (HW.out.mono (by omega)))
   clear b9 HR
   obtain ⟨b0, b1, b2, b3, b4, b5, b6, b7, b8, b9, b10, b11, b12, b13, b14, fb0⟩ := HP.out.s.c15
   clear b0 b1 b2 b3 b4 b5 b6 b7 b8 b9 b10 b11 b12 b13 fb0
   obtain ⟨y0, y1, y2, fy⟩ := HX.out.c3
   go_region_with (go_at_call 134; refine (origin_Set0 ob v ov _ (by exact HO.out) HV.out).mono ?_; rintro e w5 ⟨rfl, ho5, hk5⟩; have HO5 := Lib.hid ho5; have HK5 := Lib.hid ((Kp.refl [ob] wr).drew.trans hk5); clear ho5 hk5)
   all_goals
    replace HP := Lib.hid (HP.out.kp HK5.out (by simp))
    replace HM := Lib.hid (HM.out.kp HK5.out (by have := HM.out.ne_bl HO.out; simpa using this))
    clear b14 y0 y1 y2 fy
    go_wp2_with (go_at_call 118; refine (speaker_publish0 v ov HV.out HP.out HM.out HO5.out).mono ?_; rintro e w6 ⟨rfl, hm6, hk6⟩)
    go_end0
    exact ⟨rfl, hm6, (((Kp.of (X := [mb, ob]) (by rw [HXB.out]; exact HB.out)).trans (HK5.out.mono (by simp))).trans (hk6.mono (by simp)))⟩
end
end Go.Proofs.YtenhliibmcmnbaaGreat
namespace Go.Proofs.YtenhliibmcmnbaaGreat
set_option linter.unusedSimpArgs false
set_option linter.unusedVariables false
open Go.RowKit Go.Sort
/-- A fate: its kind and its number. -/
def fateV (f : Int × Int) : List Value := [.int .i64 f.1, .int .i64 f.2]
def fateOk (f : Int × Int) : Bool := if f.1 = 0 ∨ f.1 = 1 then decide (f.2 = 0) else if f.1 = 2 ∨ f.1 = 3 then inR f.2 0 65536 else false
def chanOk (d r m : Int) (fs : List (Int × Int)) : Bool := inR d 1 65536 && inR r 1 1048576 && inR m 0 65536 && fs.all fateOk
theorem fate_at {w : World} {A : Option Addr} {fs : List (Int × Int)} {k : Nat} {f : Int × Int} (h : Rd w A (fs.flatMap fateV)) (hk : fs[k]? = some f) :
  ∃ b o, A = some ⟨b, o, none⟩ ∧ w.cell? ⟨b, o + k * 2, none⟩ = some (.int .i64 f.1) ∧ w.cell? ⟨b, o + k * 2 + 1, none⟩ = some (.int .i64 f.2) := by
 obtain ⟨b, o, e1, h1⟩ := h.at_ (flat_at (enc := fateV) (s := 2) (fun _ => rfl) fs k f hk 0 (.int .i64 f.1) rfl)
 obtain ⟨b', o', e2, h2⟩ := h.at_ (flat_at (enc := fateV) (s := 2) (fun _ => rfl) fs k f hk 1 (.int .i64 f.2) rfl)
 rw [e1] at e2
 injection e2 with e2
 injection e2 with e3 e4 _
 subst e3 e4
 exact ⟨b, o, e1, by simpa using h1, by simpa [Nat.add_assoc] using h2⟩
theorem fates_len : ∀ fs : List (Int × Int), (fs.flatMap fateV).length = fs.length * 2
 | [] => rfl
 | f :: r => by
  rw [List.flatMap_cons, List.length_append, fates_len r, List.length_cons]
  simp [fateV]
  omega
theorem fates_one (fs : List (Int × Int)) : ∀ u ∈ fs.flatMap fateV, u.oneCell' = true := fun u hu => by
 obtain ⟨f, _, hf⟩ := List.mem_flatMap.1 hu
 simp only [fateV, List.mem_cons, List.not_mem_nil, or_false] at hf
 rcases hf with rfl | rfl <;> rfl
theorem own_slice {w : World} {B n k : Nat} {E : TypeId} {v : Value} {xs : List Value} (h : w.ownsRow B E k v n xs) : ∃ A c, v = .slice A n c := by
 rcases h with ⟨hl, ⟨rfl, h1⟩ | ⟨g, cap, cur, rfl, hb, hg, hnc, hcm, hs, ht⟩⟩
 ·obtain rfl := h1
  exact ⟨_, _, rfl⟩
 ·exact ⟨_, _, rfl⟩
section
variable {w : World}
set_option maxRecDepth 100000 in
set_option maxHeartbeats 1000000 in
theorem channel_valid (k n : Int) : Calls Tryz.prog 123 #[.agg #[.int .i64 k, .int .i64 n]] w fun e w' => e = .returned (.bool (fateOk (k, n))) ∧ Below w.heap.size w w' := by
 have HB := Lib.hid (Below.refl w.heap.size w)
 obtain ⟨R, hR⟩ : ∃ R, R = fateOk (k, n) := ⟨_, rfl⟩
 rw [← hR]
 have HR := Lib.hid hR
 clear hR
 by_cases h0 : k = 0
 ·subst h0
  go_enter Tryz.func123, Tryz.ntmps123
  go_wp2_with fail
  go_ret
  exact ⟨by show Ending.returned (.bool (n == 0)) = _; rw [HR.out]; simp [fateOk]; rfl, HB.out.alloc (Nat.le_refl _) _⟩
 by_cases h1 : k = 1
 ·subst h1
  go_enter Tryz.func123, Tryz.ntmps123
  go_wp2_with fail
  go_ret
  exact ⟨by show Ending.returned (.bool (n == 0)) = _; rw [HR.out]; simp [fateOk]; rfl, HB.out.alloc (Nat.le_refl _) _⟩
 by_cases h2 : k = 2
 ·subst h2
  clear h0 h1
  by_cases hn0 : 0 ≤ n
  ·by_cases hn1 : n ≤ 65536
   ·go_enter Tryz.func123, Tryz.ntmps123
    go_wp2_with fail
    go_ret
    exact ⟨by rw [HR.out]; first | (simp [fateOk, inR, hn0, hn1]; done) | (simp [fateOk, inR]; omega), HB.out.alloc (Nat.le_refl _) _⟩
   ·go_enter Tryz.func123, Tryz.ntmps123
    go_wp2_with fail
    go_ret
    exact ⟨by rw [HR.out]; first | (simp [fateOk, inR, hn0, hn1]; done) | (simp [fateOk, inR]; omega), HB.out.alloc (Nat.le_refl _) _⟩
  ·go_enter Tryz.func123, Tryz.ntmps123
   go_wp2_with fail
   go_ret
   exact ⟨by rw [HR.out]; first | (simp [fateOk, inR, hn0]; done) | (simp [fateOk, inR]; omega), HB.out.alloc (Nat.le_refl _) _⟩
 by_cases h3 : k = 3
 ·subst h3
  clear h0 h1 h2
  by_cases hn0 : 0 ≤ n
  ·by_cases hn1 : n ≤ 65536
   ·go_enter Tryz.func123, Tryz.ntmps123
    go_wp2_with fail
    go_ret
    exact ⟨by rw [HR.out]; first | (simp [fateOk, inR, hn0, hn1]; done) | (simp [fateOk, inR]; omega), HB.out.alloc (Nat.le_refl _) _⟩
   ·go_enter Tryz.func123, Tryz.ntmps123
    go_wp2_with fail
    go_ret
    exact ⟨by rw [HR.out]; first | (simp [fateOk, inR, hn0, hn1]; done) | (simp [fateOk, inR]; omega), HB.out.alloc (Nat.le_refl _) _⟩
  ·go_enter Tryz.func123, Tryz.ntmps123
   go_wp2_with fail
   go_ret
   exact ⟨by rw [HR.out]; first | (simp [fateOk, inR, hn0]; done) | (simp [fateOk, inR]; omega), HB.out.alloc (Nat.le_refl _) _⟩
 go_enter Tryz.func123, Tryz.ntmps123
 go_wp2_with fail
 go_ret
 exact ⟨by rw [HR.out]; simp [fateOk, h0, h1, h2, h3], HB.out.alloc (Nat.le_refl _) _⟩
theorem fates_bad {fs : List (Int × Int)} {k : Nat} {f : Int × Int} (h : fs[k]? = some f) (hf : fateOk f = false) : fs.all fateOk = false := by
 cases hc : fs.all fateOk with
 | false => rfl
 | true =>
  have := List.all_eq_true.1 hc f (List.mem_of_getElem? h)
  rw [hf] at this
  cases this
set_option maxRecDepth 100000 in
set_option maxHeartbeats 4000000 in
theorem channel_New (d r m : Int) (A : Option Addr) (c : Nat) (fs : List (Int × Int)) (hA : Rd w A (fs.flatMap fateV)) (hl : fs.length ≤ 1000000) :
  Calls Tryz.prog 57 #[.int .i64 d, .int .i64 r, .int .i64 m, .slice A fs.length c] w fun e w' => (∃ cb, e = .returned (.tuple #[.pointer cb, .int .i64 (if chanOk d r m fs then 0 else 1)]) ∧ (∀ b, cb = some b → w.heap.size ≤ b.block)) ∧ Below w.heap.size w w' := by
 have HB := Lib.hid (Below.refl w.heap.size w)
 obtain ⟨R, hR⟩ : ∃ R : Int, R = if chanOk d r m fs then 0 else 1 := ⟨_, rfl⟩
 rw [← hR]
 have HR := Lib.hid hR
 have HA := Lib.hid hA
 clear hR hA
 by_cases hx : (inR d 1 65536 && inR r 1 1048576 && inR m 0 65536) = true
 ·obtain ⟨hx12, hx3⟩ := Bool.and_eq_true_iff.1 hx
  obtain ⟨hx1, hx2⟩ := Bool.and_eq_true_iff.1 hx12
  have a1 := inR_true.1 hx1
  have a2 := inR_true.1 hx2
  have a3 := inR_true.1 hx3
  have n1 : ¬ d < 1 := by omega
  have n2 : ¬ 65536 < d := by omega
  have n3 : ¬ r < 1 := by omega
  have n4 : ¬ 1048576 < r := by omega
  have n5 : ¬ m < 0 := by omega
  have n6 : ¬ 65536 < m := by omega
  have HX := Lib.hid hx
  clear hx hx12 hx1 hx2 hx3 a1 a2 a3
  go_enter Tryz.func57, Tryz.ntmps57
  go_wp2_with fail
  go_loopg [36] fs.length (fun gg i wx => ∃ q : Nat, q + gg = fs.length ∧ i = .int .i64 q ∧ Hid (∀ j f, j < q → fs[j]? = some f → fateOk f = true) ∧ Hid (Below w.heap.size w wx))
  case atStart => exact ⟨0, by omega, rfl, Lib.hid (fun j f hj => absurd hj (by omega)), HB⟩
  case round =>
   obtain ⟨q, hq, rfl, HOK, HW⟩ := hrel
   by_cases hlt : q < fs.length
   ·have hlt' : (q : Int) < (fs.length : Int) := by omega
    obtain ⟨f, hf⟩ : ∃ f, fs[q]? = some f := ⟨_, List.getElem?_eq_getElem hlt⟩
    obtain ⟨bz, oz, rfl, cf0, cf1⟩ := fate_at (HA.out.below HW.out) hf
    obtain ⟨fk, fn⟩ := f
    have HF := Lib.hid hf
    clear hf
    cases hok : fateOk (fk, fn) with
    | false =>
     have HFK := Lib.hid hok
     clear hok
     go_wp2_with (go_at_call 123; refine (channel_valid fk fn).mono ?_; rintro e w5 ⟨rfl, hb⟩; rw [HFK.out]; have HW5 := Lib.hid (below_next (HW.out.alloc HW.out.size _) hb); clear hb)
     go_ret2
     exact ⟨⟨none, by rw [HR.out]; simp [chanOk, fates_bad HF.out HFK.out], fun b e => by cases e⟩, HW5.out⟩
    | true =>
     have HFK := Lib.hid hok
     clear hok
     go_wp2_with (go_at_call 123; refine (channel_valid fk fn).mono ?_; rintro e w5 ⟨rfl, hb⟩; rw [HFK.out]; have HW5 := Lib.hid (below_next (HW.out.alloc HW.out.size _) hb); clear hb)
     go_roundg (gk - 1)
     case measure => omega
     case rel =>
      refine ⟨q + 1, by omega, by go_num, Lib.hid (fun j y hj hy => ?_), HW5⟩
      by_cases hjq : j = q
      ·subst hjq
       rw [HF.out] at hy
       injection hy with hy
       subst hy
       exact HFK.out
      ·exact HOK.out j y (by omega) hy
   ·obtain rfl : q = fs.length := by omega
    have hlf : ¬ ((fs.length : Int) < (fs.length : Int)) := by omega
    have hall : fs.all fateOk = true := List.all_eq_true.2 (fun y hy => by
     obtain ⟨j, hj, rfl⟩ := List.getElem_of_mem hy
     exact HOK.out j _ hj (List.getElem?_eq_getElem hj))
    have HAL := Lib.hid hall
    clear hall
    go_wp2_with (go_at_call 124; (with_reducible refine (clone_Fate A fs.length c (fs.flatMap fateV) _ (HA.out.below HW.out) (fates_len fs) (fates_one fs) hl).mono ?_); rintro e w5 ⟨vf, rfl, ho, hb⟩; obtain ⟨Af, cf, rfl⟩ := own_slice ho; have HW5 := Lib.hid (below_next HW.out hb); clear ho hb)
    go_wp2_with fail
    go_ret2
    refine ⟨⟨some ⟨w5.heap.size, 0, none⟩, by rw [HR.out]; simp [chanOk, HX.out, HAL.out], fun b e => ?_⟩, HW5.out.alloc HW5.out.size _⟩
    injection e with e
    subst e
    exact HW5.out.size
 ·have HX : Hid (chanOk d r m fs = false) := Lib.hid (by unfold chanOk; rw [Bool.not_eq_true] at hx; rw [hx]; rfl)
  have hx' : ¬ ((1 ≤ d ∧ d ≤ 65536) ∧ (1 ≤ r ∧ r ≤ 1048576) ∧ (0 ≤ m ∧ m ≤ 65536)) := fun h => hx (by simp [inR, h])
  clear hx
  go_enter Tryz.func57, Tryz.ntmps57
  by_cases q0 : d < 1
  ·go_wp2_with fail
   go_ret2
   exact ⟨⟨none, by rw [HR.out]; simp [HX.out], fun b e => by cases e⟩, HB.out⟩
  by_cases q1 : 65536 < d
  ·go_wp2_with fail
   go_ret2
   exact ⟨⟨none, by rw [HR.out]; simp [HX.out], fun b e => by cases e⟩, HB.out⟩
  by_cases q2 : r < 1
  ·go_wp2_with fail
   go_ret2
   exact ⟨⟨none, by rw [HR.out]; simp [HX.out], fun b e => by cases e⟩, HB.out⟩
  by_cases q3 : 1048576 < r
  ·go_wp2_with fail
   go_ret2
   exact ⟨⟨none, by rw [HR.out]; simp [HX.out], fun b e => by cases e⟩, HB.out⟩
  by_cases q4 : m < 0
  ·go_wp2_with fail
   go_ret2
   exact ⟨⟨none, by rw [HR.out]; simp [HX.out], fun b e => by cases e⟩, HB.out⟩
  by_cases q5 : 65536 < m
  ·go_wp2_with fail
   go_ret2
   exact ⟨⟨none, by rw [HR.out]; simp [HX.out], fun b e => by cases e⟩, HB.out⟩
  exact absurd ⟨⟨by omega, by omega⟩, ⟨by omega, by omega⟩, ⟨by omega, by omega⟩⟩ hx'
end
end Go.Proofs.YtenhliibmcmnbaaGreat
namespace Go.Proofs.YtenhliibmcmnbaaGreat
set_option linter.unusedSimpArgs false
set_option linter.unusedVariables false
open Go.RowKit Go.Sort
theorem fateOk_iff {k n : Int} : fateOk (k, n) = true ↔ ((k = 0 ∨ k = 1) ∧ n = 0) ∨ ((k = 2 ∨ k = 3) ∧ 0 ≤ n ∧ n ≤ 65536) := by
 unfold fateOk
 by_cases h1 : k = 0 ∨ k = 1
 ·rw [if_pos h1]
  simp
  omega
 ·rw [if_neg h1]
  by_cases h2 : k = 2 ∨ k = 3
  ·rw [if_pos h2, inR_true]
   omega
  ·rw [if_neg h2]
   simp
   omega
section
variable {w : World}
set_option maxRecDepth 100000 in
set_option maxHeartbeats 4000000 in
theorem ref52_Valid (A : Option Addr) (c : Nat) (fs : List (Int × Int)) (hA : Rd w A (fs.flatMap fateV)) (hl : fs.length ≤ 1000000) :
  Calls Tryz.prog 128 #[.int .i64 1, .int .i64 1, .int .i64 0, .slice A fs.length c] w fun e w' => e = .returned (.bool (fs.all fateOk)) ∧ Below w.heap.size w w' := by
 have HB := Lib.hid (Below.refl w.heap.size w)
 obtain ⟨R, hR⟩ : ∃ R, R = fs.all fateOk := ⟨_, rfl⟩
 rw [← hR]
 have HR := Lib.hid hR
 have HA := Lib.hid hA
 clear hR hA
 go_enter Tryz.func128, Tryz.ntmps128
 go_wp2_with fail
 go_loopg [9] fs.length (fun gg i wx => ∃ q : Nat, q + gg = fs.length ∧ i = .int .i64 q ∧ Hid (∀ j f, j < q → fs[j]? = some f → fateOk f = true) ∧ Hid (Below w.heap.size w wx))
 case atStart => exact ⟨0, by omega, rfl, Lib.hid (fun j f hj => absurd hj (by omega)), HB⟩
 case round =>
  obtain ⟨q, hq, rfl, HOK, HW⟩ := hrel
  by_cases hlt : q < fs.length
  ·have hlt' : (q : Int) < (fs.length : Int) := by omega
   obtain ⟨f, hf⟩ : ∃ f, fs[q]? = some f := ⟨_, List.getElem?_eq_getElem hlt⟩
   obtain ⟨bz, oz, rfl, cf0, cf1⟩ := fate_at (HA.out.below HW.out) hf
   obtain ⟨fk, fn⟩ := f
   have HF := Lib.hid hf
   clear hf
   by_cases h0 : fk < 0
   ·go_wp2_with fail
    go_ret
    exact ⟨by show Ending.returned (.bool false) = _; rw [HR.out, fates_bad HF.out (Bool.eq_false_iff.2 fun h => by have := fateOk_iff.1 h; omega)], HW.out.alloc HW.out.size _⟩
   by_cases h1 : 3 < fk
   ·go_wp2_with fail
    go_ret
    exact ⟨by show Ending.returned (.bool false) = _; rw [HR.out, fates_bad HF.out (Bool.eq_false_iff.2 fun h => by have := fateOk_iff.1 h; omega)], HW.out.alloc HW.out.size _⟩
   by_cases h2 : fk < 2
   ·by_cases h3 : fn = 0
    ·subst h3
     have HFK : Hid (fateOk (fk, 0) = true) := Lib.hid (fateOk_iff.2 (by omega))
     go_wp2_with fail
     go_roundg (gk - 1)
     case measure => omega
     case rel =>
      refine ⟨q + 1, by omega, by go_num, Lib.hid (fun j y hj hy => ?_), Lib.hid (HW.out.alloc HW.out.size _)⟩
      by_cases hjq : j = q
      ·subst hjq
       rw [HF.out] at hy
       injection hy with hy
       subst hy
       exact HFK.out
      ·exact HOK.out j y (by omega) hy
    ·go_wp2_with fail
     go_ret
     exact ⟨by show Ending.returned (.bool false) = _; rw [HR.out, fates_bad HF.out (Bool.eq_false_iff.2 fun h => by have := fateOk_iff.1 h; omega)], HW.out.alloc HW.out.size _⟩
   by_cases h4 : fn < 0
   ·go_wp2_with fail
    go_ret
    exact ⟨by show Ending.returned (.bool false) = _; rw [HR.out, fates_bad HF.out (Bool.eq_false_iff.2 fun h => by have := fateOk_iff.1 h; omega)], HW.out.alloc HW.out.size _⟩
   by_cases h5 : 65536 < fn
   ·go_wp2_with fail
    go_ret
    exact ⟨by show Ending.returned (.bool false) = _; rw [HR.out, fates_bad HF.out (Bool.eq_false_iff.2 fun h => by have := fateOk_iff.1 h; omega)], HW.out.alloc HW.out.size _⟩
   have HFK : Hid (fateOk (fk, fn) = true) := Lib.hid (fateOk_iff.2 (by omega))
   go_wp2_with fail
   go_roundg (gk - 1)
   case measure => omega
   case rel =>
    refine ⟨q + 1, by omega, by go_num, Lib.hid (fun j y hj hy => ?_), Lib.hid (HW.out.alloc HW.out.size _)⟩
    by_cases hjq : j = q
    ·subst hjq
     rw [HF.out] at hy
     injection hy with hy
     subst hy
     exact HFK.out
    ·exact HOK.out j y (by omega) hy
  ·obtain rfl : q = fs.length := by omega
   have hlf : ¬ ((fs.length : Int) < (fs.length : Int)) := by omega
   have hall : fs.all fateOk = true := List.all_eq_true.2 (fun y hy => by
    obtain ⟨j, hj, rfl⟩ := List.getElem_of_mem hy
    exact HOK.out j _ hj (List.getElem?_eq_getElem hj))
   have HAL := Lib.hid hall
   clear hall
   go_wp2_with fail
   go_ret
   exact ⟨by show Ending.returned (.bool true) = _; rw [HR.out, HAL.out], HW.out⟩
end
end Go.Proofs.YtenhliibmcmnbaaGreat
namespace Go.Proofs.YtenhliibmcmnbaaGreat
open Go.RowKit Go.Sort
def compOk (t : Topo) (k m : Int) : Bool :=
 if k = 1 then isN (t.ls.length : Int) m else if k = 2 then isN t.n m else if k = 3 then inR m 1 64 else false
def compV (t : Topo) (k m : Int) : Bool := valid t && compOk t k m
theorem compOk1 (t : Topo) (m : Int) : compOk t 1 m = (decide (0 ≤ m) && decide (m < (t.ls.length : Int))) := rfl
theorem compOk2 (t : Topo) (m : Int) : compOk t 2 m = isN t.n m := rfl
theorem compOk3 (t : Topo) (m : Int) : compOk t 3 m = (decide (1 ≤ m) && decide (m ≤ 64)) := rfl
theorem compOk0 {t : Topo} {k m : Int} (h1 : (k == 1) = false) (h2 : (k == 2) = false) (h3 : (k == 3) = false) : compOk t k m = false := by
 simp only [beq_eq_false_iff_ne] at *
 simp [compOk, h1, h2, h3]
set_option maxHeartbeats 1000000 in
theorem component_within (t : Topo) (A1 A2 : Option Addr) (c1 c2 : Nat) (k m : Int) (w : World) (hT : TAt w A1 A2 t) :
  Calls Tryz.prog 175 #[.agg #[.int .i64 t.n, .slice A1 t.ov.length c1, .slice A2 t.ls.length c2], .agg #[.int .i64 k, .int .i64 m]] w fun e w' => e = .returned (.bool (compOk t k m)) ∧ Below w.heap.size w w' := by
 have hb0 := below_box w (.cells #[.int .i64 t.n, .slice A1 t.ov.length c1, .slice A2 t.ls.length c2] 25)
 have hb1 := below_box (w.alloc (.cells #[.int .i64 t.n, .slice A1 t.ov.length c1, .slice A2 t.ls.length c2] 25)) (.cells #[.int .i64 k, .int .i64 m] 125)
 have HB := below_next hb0 hb1
 have HT := hT.below HB
 have b0 := cell_up hb1 (box0 w (.int .i64 t.n) (.slice A1 t.ov.length c1) (.slice A2 t.ls.length c2) 25)
 have b1 := cell_up hb1 (box1 w (.int .i64 t.n) (.slice A1 t.ov.length c1) (.slice A2 t.ls.length c2) 25)
 have b2 := cell_up hb1 (box2 w (.int .i64 t.n) (.slice A1 t.ov.length c1) (.slice A2 t.ls.length c2) 25)
 have s0 : ((w.alloc (.cells #[.int .i64 t.n, .slice A1 t.ov.length c1, .slice A2 t.ls.length c2] 25)).alloc (.cells #[.int .i64 k, .int .i64 m] 125)).cell? ⟨w.heap.size + 1, 0, none⟩ = some (.int .i64 k) := by simp
 have s1 : ((w.alloc (.cells #[.int .i64 t.n, .slice A1 t.ov.length c1, .slice A2 t.ls.length c2] 25)).alloc (.cells #[.int .i64 k, .int .i64 m] 125)).cell? ⟨w.heap.size + 1, 1, none⟩ = some (.int .i64 m) := by simp
 clear hb0 hb1 hT
 cases h1 : (k == 1) with
 | true =>
  obtain rfl : k = 1 := by simpa using h1
  have HR := Lib.hid (compOk1 t m)
  clear h1
  cases g1 : decide (0 ≤ m) <;> cases g2 : decide (m < (t.ls.length : Int)) <;>
  (go_enter Tryz.func175, Tryz.ntmps175
   go_wp2_with fail
   first
    | (go_ret; exact ⟨by rw [HR.out, g1, g2]; rfl, HB⟩)
    | (go_quiet (fail); go_wp2_with fail; go_ret; exact ⟨by rw [HR.out, g1, g2]; rfl, below_drw HB _⟩))
 | false =>
  cases h2 : (k == 2) with
  | true =>
   obtain rfl : k = 2 := by simpa using h2
   have HR := Lib.hid (compOk2 t m)
   clear h1 h2
   go_enter Tryz.func175, Tryz.ntmps175
   go_wp2_with (go_at_call 67; refine (graph_Node _ _ _ _ _).mono ?_; rintro e w1 ⟨rfl, hb⟩; replace HT := HT.below hb; replace b0 := cell_up hb b0; replace b1 := cell_up hb b1; replace b2 := cell_up hb b2; replace s0 := cell_up hb s0; replace s1 := cell_up hb s1; replace HB := below_next HB hb; clear hb)
   go_ret
   exact ⟨by rw [HR.out]; rfl, HB⟩
  | false =>
   cases h3 : (k == 3) with
   | true =>
    obtain rfl : k = 3 := by simpa using h3
    have HR := Lib.hid (compOk3 t m)
    clear h1 h2 h3
    cases g1 : decide (1 ≤ m) <;> cases g2 : decide (m ≤ 64) <;>
    (go_enter Tryz.func175, Tryz.ntmps175
     go_wp2_with fail
     first
      | (go_ret; exact ⟨by rw [HR.out, g1, g2]; rfl, HB⟩)
      | (go_quiet (fail); go_wp2_with fail; go_ret; exact ⟨by rw [HR.out, g1, g2]; rfl, below_drw HB _⟩))
   | false =>
    have HR := Lib.hid (compOk0 (t := t) (m := m) h1 h2 h3)
    go_enter Tryz.func175, Tryz.ntmps175
    go_wp2_with fail
    go_ret
    exact ⟨by rw [HR.out]; rfl, HB⟩
theorem component_Valid (t : Topo) (A1 A2 : Option Addr) (c1 c2 : Nat) (k m : Int) (w : World) (hT : TAt w A1 A2 t) :
  Calls Tryz.prog 125 #[.agg #[.int .i64 t.n, .slice A1 t.ov.length c1, .slice A2 t.ls.length c2], .agg #[.int .i64 k, .int .i64 m]] w fun e w' => e = .returned (.bool (compV t k m)) ∧ Below w.heap.size w w' := by
 have hb0 := below_box w (.cells #[.int .i64 t.n, .slice A1 t.ov.length c1, .slice A2 t.ls.length c2] 25)
 have hb1 := below_box (w.alloc (.cells #[.int .i64 t.n, .slice A1 t.ov.length c1, .slice A2 t.ls.length c2] 25)) (.cells #[.int .i64 k, .int .i64 m] 125)
 have HB := below_next hb0 hb1
 have HT := hT.below HB
 have b0 := cell_up hb1 (box0 w (.int .i64 t.n) (.slice A1 t.ov.length c1) (.slice A2 t.ls.length c2) 25)
 have b1 := cell_up hb1 (box1 w (.int .i64 t.n) (.slice A1 t.ov.length c1) (.slice A2 t.ls.length c2) 25)
 have b2 := cell_up hb1 (box2 w (.int .i64 t.n) (.slice A1 t.ov.length c1) (.slice A2 t.ls.length c2) 25)
 have s0 : ((w.alloc (.cells #[.int .i64 t.n, .slice A1 t.ov.length c1, .slice A2 t.ls.length c2] 25)).alloc (.cells #[.int .i64 k, .int .i64 m] 125)).cell? ⟨w.heap.size + 1, 0, none⟩ = some (.int .i64 k) := by simp
 have s1 : ((w.alloc (.cells #[.int .i64 t.n, .slice A1 t.ov.length c1, .slice A2 t.ls.length c2] 25)).alloc (.cells #[.int .i64 k, .int .i64 m] 125)).cell? ⟨w.heap.size + 1, 1, none⟩ = some (.int .i64 m) := by simp
 clear hb0 hb1 hT
 cases hv : valid t with
 | false =>
  have HR : Hid (compV t k m = false) := Lib.hid (by simp [compV, hv])
  go_enter Tryz.func125, Tryz.ntmps125
  go_wp2_with (go_at_call 54; refine (topology_Valid t _ _ _ _ _ HT.ls).mono ?_; rintro e w1 ⟨rfl, hb⟩; replace HT := HT.below hb; replace b0 := cell_up hb b0; replace b1 := cell_up hb b1; replace b2 := cell_up hb b2; replace s0 := cell_up hb s0; replace s1 := cell_up hb s1; replace HB := below_next HB hb; clear hb)
  go_ret
  exact ⟨by rw [HR.out]; rfl, HB⟩
 | true =>
  have HR : Hid (compV t k m = compOk t k m) := Lib.hid (by simp [compV, hv])
  go_enter Tryz.func125, Tryz.ntmps125
  go_wp2_with (first | (go_at_call 54; refine (topology_Valid t _ _ _ _ _ HT.ls).mono ?_; rintro e w1 ⟨rfl, hb⟩; replace HT := HT.below hb; replace b0 := cell_up hb b0; replace b1 := cell_up hb b1; replace b2 := cell_up hb b2; replace s0 := cell_up hb s0; replace s1 := cell_up hb s1; replace HB := below_next HB hb; clear hb) | (go_at_call 175; refine (component_within t _ _ _ _ _ _ _ HT).mono ?_; rintro e w1 ⟨rfl, hb⟩; replace HT := HT.below hb; replace b0 := cell_up hb b0; replace b1 := cell_up hb b1; replace b2 := cell_up hb b2; replace s0 := cell_up hb s0; replace s1 := cell_up hb s1; replace HB := below_next HB hb; clear hb))
  go_ret
  exact ⟨by rw [HR.out]; rfl, HB⟩
/-- What the loads of a drawn region read, and what the calls need. -/
theorem TBox.keep {w w' : World} {A1 A2 : Option Addr} {c1 c2 : Nat} {t : Topo} (h : Hid (TBox w A1 A2 c1 c2 t w')) :
  w'.cell? ⟨w.heap.size, 0, none⟩ = some (.int .i64 t.n) ∧ w'.cell? ⟨w.heap.size, 1, none⟩ = some (.slice A1 t.ov.length c1) ∧ w'.cell? ⟨w.heap.size, 2, none⟩ = some (.slice A2 t.ls.length c2) ∧ Hid (TBox w A1 A2 c1 c2 t w') :=
 ⟨h.out.b0, h.out.b1, h.out.b2, h⟩
end Go.Proofs.YtenhliibmcmnbaaGreat
namespace Go.Proofs.YtenhliibmcmnbaaGreat
set_option linter.unusedSimpArgs false
set_option linter.unusedVariables false
open Go.RowKit Go.Sort
/-- An act: its time, its kind, its packet (six cells, with the stack's place, length and capacity), its component, its node, its switch, its arc and its cost. -/
structure AcN where
 time : Int
 kind : Int
 id : Int
 src : Int
 dst : Int
 p3 : Int
 st : Option Addr
 sn : Nat
 sc : Nat
 p5 : Int
 ck : Int
 cm : Int
 node : Int
 on : Bool
 arc : Int
 cost : Int
def acV (a : AcN) : List Value := [.int .i64 a.time, .int .i64 a.kind, .int .i64 a.id, .int .i64 a.src, .int .i64 a.dst, .int .i64 a.p3, .slice a.st a.sn a.sc, .int .i64 a.p5, .int .i64 a.ck, .int .i64 a.cm, .int .i64 a.node, .bool a.on, .int .i64 a.arc, .int .i64 a.cost]
/-- Whether an act is as its kind demands. -/
def acOk (t : Topo) (a : AcN) : Bool :=
 if a.kind = 1 then inR a.id 0 1073741824 && isN t.n a.src && isN t.n a.dst && decide (a.sn ≤ 32)
 else if a.kind = 2 ∨ a.kind = 3 then compV t a.ck a.cm
 else if a.kind = 4 then isN t.n a.node
 else if a.kind = 5 then isN (2 * (t.ls.length : Int)) a.arc && inR a.cost 1 65535
 else false
section
variable {w : World}
theorem wp_named4 {P : Program} {c : Code} {Q : Exit → Act → World → Prop} {a : Act} {W : World} (R : World → Prop) (h : R W) (k : ∀ W', R W' → c.wp P Q a W') : c.wp P Q a W := k W h
set_option maxRecDepth 100000 in
set_option maxHeartbeats 1000000 in
theorem net_within (n a b : Int) : Calls Tryz.prog 55 #[.int .i64 n, .int .i64 a, .int .i64 b] w fun e w' => e = .returned (.bool (inR n a b)) ∧ Below w.heap.size w w' := by
 have HB := Lib.hid (Below.refl w.heap.size w)
 obtain ⟨R, hR⟩ : ∃ R, R = inR n a b := ⟨_, rfl⟩
 rw [← hR]
 by_cases h1 : a ≤ n
 ·by_cases h2 : n ≤ b
  ·obtain rfl : R = true := by rw [hR]; exact inR_true.2 ⟨h1, h2⟩
   clear hR
   go_enter Tryz.func55, Tryz.ntmps55
   go_wp2_with fail
   go_ret
   exact ⟨rfl, HB.out⟩
  ·obtain rfl : R = false := by rw [hR]; exact inR_false.2 (by omega)
   clear hR
   go_enter Tryz.func55, Tryz.ntmps55
   go_wp2_with fail
   go_ret
   exact ⟨rfl, HB.out⟩
 ·obtain rfl : R = false := by rw [hR]; exact inR_false.2 (by omega)
  clear hR
  go_enter Tryz.func55, Tryz.ntmps55
  go_wp2_with fail
  go_ret
  exact ⟨rfl, HB.out⟩
set_option maxRecDepth 100000 in
set_option maxHeartbeats 4000000 in
theorem net_validAct (t : Topo) (A1 A2 : Option Addr) (c1 c2 : Nat) (a : AcN) (hT : TAt w A1 A2 t) (hl : t.ls.length ≤ 100000) (hs : a.sn ≤ 100000) :
  Calls Tryz.prog 58 #[.agg #[.int .i64 t.n, .slice A1 t.ov.length c1, .slice A2 t.ls.length c2], .agg #[.int .i64 a.time, .int .i64 a.kind, .int .i64 a.id, .int .i64 a.src, .int .i64 a.dst, .int .i64 a.p3, .slice a.st a.sn a.sc, .int .i64 a.p5, .int .i64 a.ck, .int .i64 a.cm, .int .i64 a.node, .bool a.on, .int .i64 a.arc, .int .i64 a.cost]] w fun e w' => e = .returned (.bool (acOk t a)) ∧ Below w.heap.size w w' := by
 have HB := Lib.hid (Below.refl w.heap.size w)
 have HT := Lib.hid hT
 clear hT
 obtain ⟨R, hR⟩ : ∃ R, R = acOk t a := ⟨_, rfl⟩
 rw [← hR]
 have HR := Lib.hid hR
 clear hR
 obtain ⟨tm, kd, id, sr, ds, p3, st, sn, sc, p5, ck, cm, nd, on, ar, co⟩ := a
 by_cases h1 : kd = 1
 ·subst h1
  have HR1 : Hid (R = (inR id 0 1073741824 && isN t.n sr && isN t.n ds && decide (sn ≤ 32))) := Lib.hid HR.out
  have HX := Lib.hid (two_new w #[.int .i64 t.n, .slice A1 t.ov.length c1, .slice A2 t.ls.length c2] #[.int .i64 tm, .int .i64 1, .int .i64 id, .int .i64 sr, .int .i64 ds, .int .i64 p3, .slice st sn sc, .int .i64 p5, .int .i64 ck, .int .i64 cm, .int .i64 nd, .bool on, .int .i64 ar, .int .i64 co] 25 127)
  obtain ⟨bi, hai⟩ : ∃ b, inR id 0 1073741824 = b := ⟨_, rfl⟩
  obtain ⟨bs, has⟩ : ∃ b, isN t.n sr = b := ⟨_, rfl⟩
  obtain ⟨bd, had⟩ : ∃ b, isN t.n ds = b := ⟨_, rfl⟩
  have HAI := Lib.hid hai
  have HAS := Lib.hid has
  have HAD := Lib.hid had
  clear hai has had
  go_enter Tryz.func58, Tryz.ntmps58
  go_upto_region 4 with fail
  refine wp_named4 (fun Y => ∃ p, p = w.heap.size + 1 + 1 ∧ Bl 25 w.heap.size #[.int .i64 t.n, .slice A1 t.ov.length c1, .slice A2 t.ls.length c2] Y ∧ Bl 39 p #[.int .i64 id, .int .i64 sr, .int .i64 ds, .int .i64 p3, .slice st sn sc, .int .i64 p5] Y ∧ Below w.heap.size w Y) ⟨_, rfl, HX.out.1.up (below_box _ _), by simpa using Bl.new ((w.alloc (.cells #[.int .i64 t.n, .slice A1 t.ov.length c1, .slice A2 t.ls.length c2] 25)).alloc (.cells #[.int .i64 tm, .int .i64 1, .int .i64 id, .int .i64 sr, .int .i64 ds, .int .i64 p3, .slice st sn sc, .int .i64 p5, .int .i64 ck, .int .i64 cm, .int .i64 nd, .bool on, .int .i64 ar, .int .i64 co] 127)) #[.int .i64 id, .int .i64 sr, .int .i64 ds, .int .i64 p3, .slice st sn sc, .int .i64 p5] 39, below_next (below_two _ _ _) (below_box _ _)⟩ ?_
  rintro Y ⟨p, hp, hY1, hY2, hY3⟩
  rw [← hp]
  have HY1 := Lib.hid hY1
  have HY2 := Lib.hid hY2
  have HY3 := Lib.hid hY3
  obtain ⟨y0, y1, y2, fy⟩ := hY1.c3
  obtain ⟨z0, z1, z2, z3, z4, z5, fz⟩ := hY2.c6
  clear hp hY1 hY2 hY3 HX
  cases bi with
  | false =>
   go_wp2_with (go_at_call 55; refine (net_within id 0 1073741824).mono ?_; rw [HAI.out]; rintro e w6 ⟨rfl, hb⟩; replace HY1 := Lib.hid (HY1.out.up hb); replace HY2 := Lib.hid (HY2.out.up hb); replace HY3 := Lib.hid (below_next HY3.out hb); clear hb y0 y1 y2 fy z0 z1 z2 z3 z4 z5 fz; obtain ⟨y0, y1, y2, fy⟩ := HY1.out.c3; obtain ⟨z0, z1, z2, z3, z4, z5, fz⟩ := HY2.out.c6)
   go_ret
   exact ⟨by show Ending.returned (.bool false) = _; rw [HR1.out, HAI.out]; rfl, HY3.out⟩
  | true =>
   cases bs with
   | false =>
    go_wp2_with (first | (go_at_call 55; refine (net_within id 0 1073741824).mono ?_; rw [HAI.out]; rintro e w6 ⟨rfl, hb⟩; replace HY1 := Lib.hid (HY1.out.up hb); replace HY2 := Lib.hid (HY2.out.up hb); replace HY3 := Lib.hid (below_next HY3.out hb); clear hb y0 y1 y2 fy z0 z1 z2 z3 z4 z5 fz; obtain ⟨y0, y1, y2, fy⟩ := HY1.out.c3; obtain ⟨z0, z1, z2, z3, z4, z5, fz⟩ := HY2.out.c6) | (go_at_call 67; with_reducible refine (graph_Node t.n sr _ _ _).mono ?_; rw [HAS.out]; rintro e w6 ⟨rfl, hb⟩; replace HY1 := Lib.hid (HY1.out.up hb); replace HY2 := Lib.hid (HY2.out.up hb); replace HY3 := Lib.hid (below_next HY3.out hb); clear hb y0 y1 y2 fy z0 z1 z2 z3 z4 z5 fz; obtain ⟨y0, y1, y2, fy⟩ := HY1.out.c3; obtain ⟨z0, z1, z2, z3, z4, z5, fz⟩ := HY2.out.c6))
    go_ret
    exact ⟨by show Ending.returned (.bool false) = _; rw [HR1.out, HAI.out, HAS.out]; rfl, HY3.out⟩
   | true =>
    cases bd with
    | false =>
     go_wp2_with (first | (go_at_call 55; refine (net_within id 0 1073741824).mono ?_; rw [HAI.out]; rintro e w6 ⟨rfl, hb⟩; replace HY1 := Lib.hid (HY1.out.up hb); replace HY2 := Lib.hid (HY2.out.up hb); replace HY3 := Lib.hid (below_next HY3.out hb); clear hb y0 y1 y2 fy z0 z1 z2 z3 z4 z5 fz; obtain ⟨y0, y1, y2, fy⟩ := HY1.out.c3; obtain ⟨z0, z1, z2, z3, z4, z5, fz⟩ := HY2.out.c6) | (go_at_call 67; with_reducible refine (graph_Node t.n sr _ _ _).mono ?_; rw [HAS.out]; rintro e w6 ⟨rfl, hb⟩; replace HY1 := Lib.hid (HY1.out.up hb); replace HY2 := Lib.hid (HY2.out.up hb); replace HY3 := Lib.hid (below_next HY3.out hb); clear hb y0 y1 y2 fy z0 z1 z2 z3 z4 z5 fz; obtain ⟨y0, y1, y2, fy⟩ := HY1.out.c3; obtain ⟨z0, z1, z2, z3, z4, z5, fz⟩ := HY2.out.c6) | (go_at_call 67; with_reducible refine (graph_Node t.n ds _ _ _).mono ?_; rw [HAD.out]; rintro e w6 ⟨rfl, hb⟩; replace HY1 := Lib.hid (HY1.out.up hb); replace HY2 := Lib.hid (HY2.out.up hb); replace HY3 := Lib.hid (below_next HY3.out hb); clear hb y0 y1 y2 fy z0 z1 z2 z3 z4 z5 fz; obtain ⟨y0, y1, y2, fy⟩ := HY1.out.c3; obtain ⟨z0, z1, z2, z3, z4, z5, fz⟩ := HY2.out.c6))
     go_ret
     exact ⟨by show Ending.returned (.bool false) = _; rw [HR1.out, HAI.out, HAS.out, HAD.out]; rfl, HY3.out⟩
    | true =>
     have H32 : Hid (decide ((sn : Int) ≤ 32) = decide (sn ≤ 32)) := Lib.hid (decide_eq_decide.2 (by omega))
     go_wp2_with (first | (go_at_call 55; refine (net_within id 0 1073741824).mono ?_; rw [HAI.out]; rintro e w6 ⟨rfl, hb⟩; replace HY1 := Lib.hid (HY1.out.up hb); replace HY2 := Lib.hid (HY2.out.up hb); replace HY3 := Lib.hid (below_next HY3.out hb); clear hb y0 y1 y2 fy z0 z1 z2 z3 z4 z5 fz; obtain ⟨y0, y1, y2, fy⟩ := HY1.out.c3; obtain ⟨z0, z1, z2, z3, z4, z5, fz⟩ := HY2.out.c6) | (go_at_call 67; with_reducible refine (graph_Node t.n sr _ _ _).mono ?_; rw [HAS.out]; rintro e w6 ⟨rfl, hb⟩; replace HY1 := Lib.hid (HY1.out.up hb); replace HY2 := Lib.hid (HY2.out.up hb); replace HY3 := Lib.hid (below_next HY3.out hb); clear hb y0 y1 y2 fy z0 z1 z2 z3 z4 z5 fz; obtain ⟨y0, y1, y2, fy⟩ := HY1.out.c3; obtain ⟨z0, z1, z2, z3, z4, z5, fz⟩ := HY2.out.c6) | (go_at_call 67; with_reducible refine (graph_Node t.n ds _ _ _).mono ?_; rw [HAD.out]; rintro e w6 ⟨rfl, hb⟩; replace HY1 := Lib.hid (HY1.out.up hb); replace HY2 := Lib.hid (HY2.out.up hb); replace HY3 := Lib.hid (below_next HY3.out hb); clear hb y0 y1 y2 fy z0 z1 z2 z3 z4 z5 fz; obtain ⟨y0, y1, y2, fy⟩ := HY1.out.c3; obtain ⟨z0, z1, z2, z3, z4, z5, fz⟩ := HY2.out.c6))
     go_ret
     exact ⟨by show Ending.returned (.bool (decide ((sn : Int) ≤ 32))) = _; rw [HR1.out, HAI.out, HAS.out, HAD.out, H32.out]; rfl, HY3.out⟩
 by_cases h2 : kd = 2
 ·subst h2
  clear h1
  go_enter Tryz.func58, Tryz.ntmps58
  go_wp2_with (go_at_call 125; refine (component_Valid t A1 A2 c1 c2 ck cm _ (HT.out.below (by (repeat' (first | (with_reducible exact HB.out) | (with_reducible refine Bset ?_ ?_) | (with_reducible refine Bdrw ?_) | (with_reducible refine Bbox ?_ ?_) | omega | (simp; done) | (simp; omega)))))).mono ?_; rintro e w5 ⟨rfl, hb⟩; have HB5 := Lib.hid (below_next (show Below w.heap.size w _ from by (repeat' (first | (with_reducible exact HB.out) | (with_reducible refine Bset ?_ ?_) | (with_reducible refine Bdrw ?_) | (with_reducible refine Bbox ?_ ?_) | omega | (simp; done) | (simp; omega)))) hb); clear hb)
  go_ret
  exact ⟨by rw [HR.out]; rfl, HB5.out⟩
 by_cases h3 : kd = 3
 ·subst h3
  clear h1 h2
  go_enter Tryz.func58, Tryz.ntmps58
  go_wp2_with (go_at_call 125; refine (component_Valid t A1 A2 c1 c2 ck cm _ (HT.out.below (by (repeat' (first | (with_reducible exact HB.out) | (with_reducible refine Bset ?_ ?_) | (with_reducible refine Bdrw ?_) | (with_reducible refine Bbox ?_ ?_) | omega | (simp; done) | (simp; omega)))))).mono ?_; rintro e w5 ⟨rfl, hb⟩; have HB5 := Lib.hid (below_next (show Below w.heap.size w _ from by (repeat' (first | (with_reducible exact HB.out) | (with_reducible refine Bset ?_ ?_) | (with_reducible refine Bdrw ?_) | (with_reducible refine Bbox ?_ ?_) | omega | (simp; done) | (simp; omega)))) hb); clear hb)
  go_ret
  exact ⟨by rw [HR.out]; rfl, HB5.out⟩
 by_cases h4 : kd = 4
 ·subst h4
  clear h1 h2 h3
  go_enter Tryz.func58, Tryz.ntmps58
  go_wp2_with (go_at_call 67; refine (graph_Node t.n nd _ _ _).mono ?_; rintro e w5 ⟨rfl, hb⟩; have HB5 := Lib.hid (below_next (show Below w.heap.size w _ from by (repeat' (first | (with_reducible exact HB.out) | (with_reducible refine Bset ?_ ?_) | (with_reducible refine Bdrw ?_) | (with_reducible refine Bbox ?_ ?_) | omega | (simp; done) | (simp; omega)))) hb); clear hb)
  go_ret
  exact ⟨by rw [HR.out]; rfl, HB5.out⟩
 by_cases h5 : kd = 5
 ·subst h5
  clear h1 h2 h3 h4
  have HR5 : Hid (R = (isN (2 * (t.ls.length : Int)) ar && inR co 1 65535)) := Lib.hid HR.out
  cases ha : isN (2 * (t.ls.length : Int)) ar with
  | false =>
   have HAR := Lib.hid ha
   clear ha
   go_enter Tryz.func58, Tryz.ntmps58
   go_wp2_with (go_at_call 93; refine (graph_Arc _ _ A2 t.ls.length c2 ar _ hl).mono ?_; rw [HAR.out]; rintro e w5 ⟨rfl, hb⟩; have HB5 := Lib.hid (below_next (show Below w.heap.size w _ from by (repeat' (first | (with_reducible exact HB.out) | (with_reducible refine Bset ?_ ?_) | (with_reducible refine Bdrw ?_) | (with_reducible refine Bbox ?_ ?_) | omega | (simp; done) | (simp; omega)))) hb); clear hb)
   go_ret
   exact ⟨by rw [HR5.out, HAR.out]; rfl, HB5.out⟩
  | true =>
   have HAR := Lib.hid ha
   clear ha
   have HX := Lib.hid (two_new w #[.int .i64 t.n, .slice A1 t.ov.length c1, .slice A2 t.ls.length c2] #[.int .i64 tm, .int .i64 5, .int .i64 id, .int .i64 sr, .int .i64 ds, .int .i64 p3, .slice st sn sc, .int .i64 p5, .int .i64 ck, .int .i64 cm, .int .i64 nd, .bool on, .int .i64 ar, .int .i64 co] 25 127)
   go_enter Tryz.func58, Tryz.ntmps58
   go_upto_region 1 with fail
   refine wp_named4 (fun Y => ∃ p, p = w.heap.size + 1 ∧ Bl 25 w.heap.size #[.int .i64 t.n, .slice A1 t.ov.length c1, .slice A2 t.ls.length c2] Y ∧ Bl 127 p #[.int .i64 tm, .int .i64 5, .int .i64 id, .int .i64 sr, .int .i64 ds, .int .i64 p3, .slice st sn sc, .int .i64 p5, .int .i64 ck, .int .i64 cm, .int .i64 nd, .bool on, .int .i64 ar, .int .i64 co] Y ∧ Below w.heap.size w Y) ⟨_, rfl, HX.out.1, HX.out.2, below_two _ _ _⟩ ?_
   rintro Y ⟨p, hp, hY1, hY2, hY3⟩
   rw [← hp]
   have HY2 := Lib.hid hY2
   have HY3 := Lib.hid hY3
   obtain ⟨y0, y1, y2, fy⟩ := hY1.c3
   have x1 := hY2.cell 1 rfl
   have x12 := hY2.cell 12 rfl
   have fx := hY2.frz
   clear hp hY1 hY2 hY3 HX
   go_wp2_with (first | (go_at_call 93; refine (graph_Arc _ _ A2 t.ls.length c2 ar _ hl).mono ?_; rw [HAR.out]; rintro e w5 ⟨rfl, hb⟩; have HB5 := Lib.hid (below_next HY3.out hb); have b13 := (HY2.out.up hb).cell 13 rfl; have bf := (HY2.out.up hb).frz; clear hb x1 x12 y0 y1 y2 fx fy) | (go_at_call 55; refine (net_within co 1 65535).mono ?_; rintro e w6 ⟨rfl, hb⟩; replace HB5 := Lib.hid (below_next HB5.out hb); clear hb))
   go_ret
   exact ⟨by rw [HR5.out, HAR.out]; rfl, HB5.out⟩
 have HRF : Hid (R = false) := Lib.hid (by rw [HR.out]; simp [acOk, h1, h2, h3, h4, h5])
 go_enter Tryz.func58, Tryz.ntmps58
 go_wp2_with fail
 go_ret
 exact ⟨by rw [HRF.out]; rfl, by (repeat' (first | (with_reducible exact HB.out) | (with_reducible refine Bset ?_ ?_) | (with_reducible refine Bdrw ?_) | (with_reducible refine Bbox ?_ ?_) | omega | (simp; done) | (simp; omega)))⟩
end
end Go.Proofs.YtenhliibmcmnbaaGreat
namespace Go.Proofs.YtenhliibmcmnbaaGreat
open Go.RowKit Go.Shelf
attribute [local go_sem] Oper.semAt_some
/-- What a round of the loop keeps: all that lay below n₀, and the block of the component. -/
def Kq (n₀ Bc : Nat) (W W' : World) : Prop := Below n₀ W W' ∧ W'.heap[Bc]? = W.heap[Bc]?
theorem Kq.trans {n₀ Bc : Nat} {A B C : World} (h : Kq n₀ Bc A B) (g : Kq n₀ Bc B C) : Kq n₀ Bc A C := ⟨h.1.trans g.1, g.2.trans h.2⟩
theorem Kq.cell {n₀ Bc o : Nat} {W W' : World} (h : Kq n₀ Bc W W') : W'.cell? ⟨Bc, o, none⟩ = W.cell? ⟨Bc, o, none⟩ := World.cell?_of_block (w := W) h.2
theorem Kq.alloc {n₀ Bc : Nat} (W : World) (o : Obj) (h1 : n₀ ≤ W.heap.size) (h2 : Bc < W.heap.size) : Kq n₀ Bc W (W.alloc o) := ⟨(Below.refl _ W).alloc h1 o, Below.heap_alloc W o Bc h2⟩
end Go.Proofs.YtenhliibmcmnbaaGreat
namespace Go.Proofs.YtenhliibmcmnbaaGreat
open Go.RowKit Go.Shelf
attribute [local go_sem] Oper.semAt_some
end Go.Proofs.YtenhliibmcmnbaaGreat
namespace Go.Proofs.YtenhliibmcmnbaaGreat
open Go.RowKit Go.Sort
theorem compV1 {t : Topo} {m : Int} (hv : valid t = true) : compV t 1 m = (decide (0 ≤ m) && decide (m < (t.ls.length : Int))) := by simp [compV, hv, compOk1]
theorem compV2 {t : Topo} {m : Int} (hv : valid t = true) : compV t 2 m = (decide (0 ≤ m) && decide (m < t.n)) := by simp [compV, hv, compOk2, isN]
theorem compV3 {t : Topo} {m : Int} (hv : valid t = true) : compV t 3 m = (decide (1 ≤ m) && decide (m ≤ 64)) := by simp [compV, hv, compOk3]
set_option maxHeartbeats 1000000 in
theorem ref10_Valid (t : Topo) (A1 A2 : Option Addr) (c1 c2 : Nat) (k m : Int) (w : World) (hT : TAt w A1 A2 t) :
  Calls Tryz.prog 127 #[.agg #[.int .i64 t.n, .slice A1 t.ov.length c1, .slice A2 t.ls.length c2], .agg #[.int .i64 k, .int .i64 m]] w fun e w' => e = .returned (.bool (compV t k m)) ∧ Below w.heap.size w w' := by
 have hb0 := below_box w (.cells #[.int .i64 t.n, .slice A1 t.ov.length c1, .slice A2 t.ls.length c2] 25)
 have hb1 := below_box (w.alloc (.cells #[.int .i64 t.n, .slice A1 t.ov.length c1, .slice A2 t.ls.length c2] 25)) (.cells #[.int .i64 k, .int .i64 m] 125)
 have HB := below_next hb0 hb1
 have HT := hT.below HB
 have b0 := cell_up hb1 (box0 w (.int .i64 t.n) (.slice A1 t.ov.length c1) (.slice A2 t.ls.length c2) 25)
 have b1 := cell_up hb1 (box1 w (.int .i64 t.n) (.slice A1 t.ov.length c1) (.slice A2 t.ls.length c2) 25)
 have b2 := cell_up hb1 (box2 w (.int .i64 t.n) (.slice A1 t.ov.length c1) (.slice A2 t.ls.length c2) 25)
 have s0 : ((w.alloc (.cells #[.int .i64 t.n, .slice A1 t.ov.length c1, .slice A2 t.ls.length c2] 25)).alloc (.cells #[.int .i64 k, .int .i64 m] 125)).cell? ⟨w.heap.size + 1, 0, none⟩ = some (.int .i64 k) := by simp
 have s1 : ((w.alloc (.cells #[.int .i64 t.n, .slice A1 t.ov.length c1, .slice A2 t.ls.length c2] 25)).alloc (.cells #[.int .i64 k, .int .i64 m] 125)).cell? ⟨w.heap.size + 1, 1, none⟩ = some (.int .i64 m) := by simp
 clear hb0 hb1 hT
 cases hv : valid t with
 | false =>
  have HR : Hid (compV t k m = false) := Lib.hid (by simp [compV, hv])
  go_enter Tryz.func127, Tryz.ntmps127
  go_wp2_with (go_at_call 16; refine (ref09_Valid t _ _ _ _ _ HT.ls).mono ?_; rintro e w1 ⟨rfl, hb⟩; replace HT := HT.below hb; replace b0 := cell_up hb b0; replace b1 := cell_up hb b1; replace b2 := cell_up hb b2; replace s0 := cell_up hb s0; replace s1 := cell_up hb s1; replace HB := below_next HB hb; clear hb)
  go_ret
  exact ⟨by rw [HR.out]; rfl, HB⟩
 | true =>
  cases h1 : (k == 1) with
  | true =>
   obtain rfl : k = 1 := by simpa using h1
   have HR := Lib.hid (compV1 (m := m) hv)
   cases g1 : decide (0 ≤ m) <;> cases g2 : decide (m < (t.ls.length : Int)) <;>
   (go_enter Tryz.func127, Tryz.ntmps127
    go_wp2_with (go_at_call 16; refine (ref09_Valid t _ _ _ _ _ HT.ls).mono ?_; rintro e w1 ⟨rfl, hb⟩; replace HT := HT.below hb; replace b0 := cell_up hb b0; replace b1 := cell_up hb b1; replace b2 := cell_up hb b2; replace s0 := cell_up hb s0; replace s1 := cell_up hb s1; replace HB := below_next HB hb; clear hb)
    first
     | (go_ret; exact ⟨by rw [HR.out, g1, g2]; rfl, HB⟩)
     | (go_quiet (fail); go_wp2_with fail; go_ret; exact ⟨by rw [HR.out, g1, g2]; rfl, below_drw HB _⟩))
  | false =>
   cases h2 : (k == 2) with
   | true =>
    obtain rfl : k = 2 := by simpa using h2
    have HR := Lib.hid (compV2 (m := m) hv)
    cases g1 : decide (0 ≤ m) <;> cases g2 : decide (m < t.n) <;>
    (go_enter Tryz.func127, Tryz.ntmps127
     go_wp2_with (go_at_call 16; refine (ref09_Valid t _ _ _ _ _ HT.ls).mono ?_; rintro e w1 ⟨rfl, hb⟩; replace HT := HT.below hb; replace b0 := cell_up hb b0; replace b1 := cell_up hb b1; replace b2 := cell_up hb b2; replace s0 := cell_up hb s0; replace s1 := cell_up hb s1; replace HB := below_next HB hb; clear hb)
     first
      | (go_ret; exact ⟨by rw [HR.out, g1, g2]; rfl, HB⟩)
      | (go_quiet (fail); go_wp2_with fail; go_ret; exact ⟨by rw [HR.out, g1, g2]; rfl, below_drw HB _⟩))
   | false =>
    cases h3 : (k == 3) with
    | true =>
     obtain rfl : k = 3 := by simpa using h3
     have HR := Lib.hid (compV3 (m := m) hv)
     cases g1 : decide (1 ≤ m) <;> cases g2 : decide (m ≤ 64) <;>
     (go_enter Tryz.func127, Tryz.ntmps127
      go_wp2_with (go_at_call 16; refine (ref09_Valid t _ _ _ _ _ HT.ls).mono ?_; rintro e w1 ⟨rfl, hb⟩; replace HT := HT.below hb; replace b0 := cell_up hb b0; replace b1 := cell_up hb b1; replace b2 := cell_up hb b2; replace s0 := cell_up hb s0; replace s1 := cell_up hb s1; replace HB := below_next HB hb; clear hb)
      first
       | (go_ret; exact ⟨by rw [HR.out, g1, g2]; rfl, HB⟩)
       | (go_quiet (fail); go_wp2_with fail; go_ret; exact ⟨by rw [HR.out, g1, g2]; rfl, below_drw HB _⟩))
    | false =>
     have HR : Hid (compV t k m = false) := Lib.hid (by rw [compV, hv, compOk0 h1 h2 h3]; rfl)
     go_enter Tryz.func127, Tryz.ntmps127
     go_wp2_with (go_at_call 16; refine (ref09_Valid t _ _ _ _ _ HT.ls).mono ?_; rintro e w1 ⟨rfl, hb⟩; replace HT := HT.below hb; replace b0 := cell_up hb b0; replace b1 := cell_up hb b1; replace b2 := cell_up hb b2; replace s0 := cell_up hb s0; replace s1 := cell_up hb s1; replace HB := below_next HB hb; clear hb)
     go_ret
     exact ⟨by rw [HR.out]; rfl, HB⟩
/-- The boxes of a topology and of a component, in a later world. -/
structure PBox (w : World) (A1 A2 : Option Addr) (c1 c2 : Nat) (t : Topo) (k m : Int) (wr : World) : Prop where
 b0 : wr.cell? ⟨w.heap.size, 0, none⟩ = some (.int .i64 t.n)
 b1 : wr.cell? ⟨w.heap.size, 1, none⟩ = some (.slice A1 t.ov.length c1)
 b2 : wr.cell? ⟨w.heap.size, 2, none⟩ = some (.slice A2 t.ls.length c2)
 s0 : wr.cell? ⟨w.heap.size + 1, 0, none⟩ = some (.int .i64 k)
 s1 : wr.cell? ⟨w.heap.size + 1, 1, none⟩ = some (.int .i64 m)
 hb : Below w.heap.size w wr
theorem PBox.up {w wr w' : World} {A1 A2 : Option Addr} {c1 c2 : Nat} {t : Topo} {k m : Int} (h : PBox w A1 A2 c1 c2 t k m wr) (hb : Below wr.heap.size wr w') : PBox w A1 A2 c1 c2 t k m w' :=
 ⟨cell_up hb h.b0, cell_up hb h.b1, cell_up hb h.b2, cell_up hb h.s0, cell_up hb h.s1, below_next h.hb hb⟩
theorem PBox.keep {w wr w' : World} {A1 A2 : Option Addr} {c1 c2 : Nat} {t : Topo} {k m : Int} (h : PBox w A1 A2 c1 c2 t k m wr) (hb : Below (w.heap.size + 2) wr w') : PBox w A1 A2 c1 c2 t k m w' :=
 ⟨(hb.cell (by simp)).trans h.b0, (hb.cell (by simp)).trans h.b1, (hb.cell (by simp)).trans h.b2, (hb.cell (by simp)).trans h.s0, (hb.cell (by simp)).trans h.s1, h.hb.trans (hb.mono (by omega))⟩
end Go.Proofs.YtenhliibmcmnbaaGreat
