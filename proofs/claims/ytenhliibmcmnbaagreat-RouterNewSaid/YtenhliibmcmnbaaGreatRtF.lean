/-
  The first advertisement of a node: originate. Lists of structs, flat.
-/
import Derived.Test.YtenhliibmcmnbaaGreatRtE
namespace Go.Proofs.YtenhliibmcmnbaaGreat
set_option linter.unusedSimpArgs false
set_option linter.unusedVariables false
open Go.RowKit Go.Sort

theorem flat_len {α : Type} {enc : α → List Value} {s : Nat} (hs : ∀ x, (enc x).length = s) : ∀ l : List α, (l.flatMap enc).length = l.length * s
  | [] => by simp
  | x :: l => by simp only [List.flatMap_cons, List.length_append, hs, flat_len hs l, List.length_cons, Nat.succ_mul]; omega
theorem flat_at {α : Type} {enc : α → List Value} {s : Nat} (hs : ∀ x, (enc x).length = s) : ∀ (l : List α) (k : Nat) (e : α), l[k]? = some e → ∀ (j : Nat) (v : Value), (enc e)[j]? = some v → (l.flatMap enc)[k * s + j]? = some v
  | [], k, e, h => by simp at h
  | x :: l, 0, e, h => by
    intro j v hj
    simp only [List.getElem?_cons_zero, Option.some.injEq] at h
    subst h
    have hjl : j < (enc x).length := (List.getElem?_eq_some_iff.1 hj).1
    simp only [List.flatMap_cons, Nat.zero_mul, Nat.zero_add]
    rw [List.getElem?_append_left hjl]; exact hj
  | x :: l, k + 1, e, h => by
    intro j v hj
    have := flat_at hs l k e (by simpa using h) j v hj
    simp only [List.flatMap_cons] at this ⊢
    rw [List.getElem?_append_right (by rw [hs, Nat.succ_mul]; omega)]
    rw [show (k + 1) * s + j - (enc x).length = k * s + j by rw [hs, Nat.succ_mul]; omega]
    exact this
/-- An element of a list of structs that lies in memory. -/
theorem Rd.elem {α : Type} {enc : α → List Value} {s : Nat} (hs : ∀ x, (enc x).length = s) (hp : 0 < s) {w : World} {A : Option Addr} {l : List α} (h : Rd w A (l.flatMap enc)) {k : Nat} (hk : k < l.length) :
    ∃ b o, A = some ⟨b, o, none⟩ ∧ ∀ j v, (enc l[k])[j]? = some v → w.cell? ⟨b, o + k * s + j, none⟩ = some v := by
  have hx : (l.flatMap enc)[k * s + 0]? = some ((enc l[k])[0]'(by rw [hs]; exact hp)) := flat_at hs l k _ (List.getElem?_eq_getElem hk) 0 _ (List.getElem?_eq_getElem _)
  obtain ⟨b, o, hA, _⟩ := h.at_ hx
  refine ⟨b, o, hA, fun j v hv => ?_⟩
  obtain ⟨b', o', hA', hc⟩ := h.at_ (flat_at hs l k _ (List.getElem?_eq_getElem hk) j v hv)
  rw [hA] at hA'
  injection hA' with hA'
  injection hA' with h1 h2
  subst h1 h2
  rw [Nat.add_assoc]; exact hc
theorem MapAt.ne_bl {P : Program} {k T : TypeId} {b c : Nat} {L : List (Value × Value)} {cs : Array Value} {w : World} (h : MapAt P k b L w) (g : Bl T c cs w) : b ≠ c := by
  rintro rfl
  obtain ⟨es, clock, hb, _⟩ := h
  unfold Bl at g
  rw [hb] at g
  cases g
/-- A port whose neighbour has not been heard. -/
def portV (p : Int × Int × Int) : List Value := [.int .i64 p.1, .int .i64 p.2.1, .int .i64 p.2.2, .int .i64 0, .int .i64 0, .int .i64 0]
theorem portV_len (p : Int × Int × Int) : (portV p).length = 6 := rfl
section
variable {sb db mb fb nb ob : Nat} {n : Int} {x0 x1 x2 x3 x4 x5 x6 x7 x8 : Value} {w : World}
set_option maxRecDepth 100000 in
set_option maxHeartbeats 2000000 in
theorem speaker_originate0 (v : Int) (ov : Bool) (A : Option Addr) (ca : Nat) (ps : List (Int × Int × Int)) (hv : isN 64 v = true) (hl : ps.length ≤ 1000) (hr : Rd w A (ps.flatMap portV)) (h : Pts sb db mb fb nb ob n x0 x1 x2 x3 x4 x5 x6 x7 x8 (.slice A ps.length ca) (.bool ov) (.slice none 0 0) w)
    (hm : MapAt Tryz.prog 3 mb [] w) (ho : Bl 249 ob #[.bool false, .slice none 0 0, .slice none 0 0, .int .i64 v, .int .i64 0, .bool false, .int .i64 0] w) :
    Calls Tryz.prog 78 #[.pointer (some ⟨sb, 0, none⟩)] w fun e w' => e = .returned (.tuple #[]) ∧ MapAt Tryz.prog 3 mb [(.int .i64 v, heldV v ov)] w' ∧ Kp [mb, ob] w w' := by
  obtain ⟨b0, b1, b2, b3, b4, b5, b6, b7, b8, b9, b10, b11, b12, b13, b14, fb0⟩ := h.s.c15
  have HP := Lib.hid h
  have HM := Lib.hid hm
  have HO := Lib.hid ho
  have HV := Lib.hid hv
  have HR := Lib.hid hr
  have hsb := h.s.lt
  have n1 := Nat.ne_of_lt hsb
  have n2 := Nat.ne_of_gt hsb
  clear b0 b1 b2 b3 b4 b5 b6 b7 b8 b12 b13 fb0 h hm ho hv hr
  go_enter Tryz.func78, Tryz.ntmps78
  go_wp2_with fail
  go_region
  have HX := Lib.hid (Bl.new w #[.bool ov, .slice none 0 0, .slice none 0 0] 247 |>.up (Bdrw (Below.refl _ _)))
  replace HP := Lib.hid (HP.out.up (Bdrw (below_box w (.cells #[.bool ov, .slice none 0 0, .slice none 0 0] 247))))
  replace HM := Lib.hid (HM.out.up (Bdrw (below_box w (.cells #[.bool ov, .slice none 0 0, .slice none 0 0] 247))))
  replace HO := Lib.hid (HO.out.up (Bdrw (below_box w (.cells #[.bool ov, .slice none 0 0, .slice none 0 0] 247))))
  replace HR := Lib.hid (HR.out.below (Bdrw (below_box w (.cells #[.bool ov, .slice none 0 0, .slice none 0 0] 247))))
  have HB := Lib.hid (Bdrw (below_box w (.cells #[.bool ov, .slice none 0 0, .slice none 0 0] 247)))
  have hsz : w.heap.size < (w.alloc (.cells #[.bool ov, .slice none 0 0, .slice none 0 0] 247)).drew.heap.size := by simp
  clear b9 b10 b11 b14 n1 n2 hsb
  generalize hW : (w.alloc (.cells #[.bool ov, .slice none 0 0, .slice none 0 0] 247)).drew = W2 at HX HP HM HO HR HB hsz ⊢
  generalize hxb : w.heap.size = xb at HX HB hsz ⊢
  have HXB := Lib.hid hxb
  clear hW hxb
  obtain ⟨b0, b1, b2, b3, b4, b5, b6, b7, b8, b9, b10, b11, b12, b13, b14, fb0⟩ := HP.out.s.c15
  clear b0 b1 b2 b3 b4 b5 b6 b7 b8 b10 b11 b12 b13 b14 fb0
  go_wp2_with fail
  go_loopw [21] (fun i wr => ∃ k : Nat, k ≤ ps.length ∧ i = .int .i64 k ∧ Hid (Below W2.heap.size W2 wr)) (fun i _ => ps.length - (intOf i).toNat)
  case atStart => exact ⟨0, Nat.zero_le _, rfl, Lib.hid (Below.refl _ _)⟩
  case round =>
    obtain ⟨k, hk, rfl, HW⟩ := hrel
    by_cases hlt : k < ps.length
    · obtain ⟨b, o, rfl, hc⟩ := Rd.elem portV_len (by decide) (HR.out.below HW.out) hlt
      generalize ps[k] = p at hc
      obtain ⟨p1, p2, p3⟩ := p
      have q0 : wr.cell? ⟨b, o + k * 6, none⟩ = some (.int .i64 p1) := hc 0 _ rfl
      have q1 : wr.cell? ⟨b, o + k * 6 + 1, none⟩ = some (.int .i64 p2) := hc 1 _ rfl
      have q2 : wr.cell? ⟨b, o + k * 6 + 2, none⟩ = some (.int .i64 p3) := hc 2 _ rfl
      have q3 : wr.cell? ⟨b, o + k * 6 + 3, none⟩ = some (.int .i64 0) := hc 3 _ rfl
      have q4 : wr.cell? ⟨b, o + k * 6 + 4, none⟩ = some (.int .i64 0) := hc 4 _ rfl
      have q5 : wr.cell? ⟨b, o + k * 6 + 5, none⟩ = some (.int .i64 0) := hc 5 _ rfl
      clear hc
      go_wp2_with fail
      go_roundw
      case rel => exact ⟨k + 1, by omega, by go_num, Lib.hid (below_next HW.out (below_box _ _))⟩
      case measure => simp [intOf]; omega
    · go_wp2_with fail
      replace HP := Lib.hid (HP.out.up HW.out)
      replace HM := Lib.hid (HM.out.up HW.out)
      replace HO := Lib.hid (HO.out.up HW.out)
      replace HX := Lib.hid (HX.out.up HW.out)
      replace HB := Lib.hid (HB.out.trans (HW.out.mono (by omega)))
      clear b9 HR
      obtain ⟨b0, b1, b2, b3, b4, b5, b6, b7, b8, b9, b10, b11, b12, b13, b14, fb0⟩ := HP.out.s.c15
      clear b0 b1 b2 b3 b4 b5 b6 b7 b8 b9 b10 b11 b12 b13 fb0
      obtain ⟨y0, y1, y2, fy⟩ := HX.out.c3
      go_region_with (go_at_call 134; refine (origin_Set0 ob v ov _ (by exact HO.out) HV.out).mono ?_; rintro e w5 ⟨rfl, ho5, hk5⟩; have HO5 := Lib.hid ho5; have HK5 := Lib.hid ((Kp.refl [ob] wr).drew.trans hk5); clear ho5 hk5)
      all_goals
        replace HP := Lib.hid (HP.out.kp HK5.out (by simp))
        replace HM := Lib.hid (HM.out.kp HK5.out (by have := HM.out.ne_bl HO.out; simpa using this))
        clear b14 y0 y1 y2 fy
        go_wp2_with (go_at_call 118; refine (speaker_publish0 v ov HV.out HP.out HM.out HO5.out).mono ?_; rintro e w6 ⟨rfl, hm6, hk6⟩)
        go_end0
        exact ⟨rfl, hm6, (((Kp.of (X := [mb, ob]) (by rw [HXB.out]; exact HB.out)).trans (HK5.out.mono (by simp))).trans (hk6.mono (by simp)))⟩
end
end Go.Proofs.YtenhliibmcmnbaaGreat
