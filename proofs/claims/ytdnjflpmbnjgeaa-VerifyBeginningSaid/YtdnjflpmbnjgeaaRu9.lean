/-
  The rules of the check: outage (printed by gen_ru9.py).
-/
import Derived.Test.YtdnjflpmbnjgeaaRu8
namespace Go.Proofs.Ytdnjflpmbnjgeaa
set_option linter.unusedSimpArgs false
set_option linter.unusedVariables false
open Go.RowKit Go.Sort
section
variable {w : World} {F : FaN} {A1 A2 O : Option Addr} {c1 c2 co : Nat} {fl : Value} {b : CkB} {pm : Int → Option PkN} {pr : Int → Bool} {c : CkS}
structure OgW (w : World) (F : FaN) (A1 A2 O : Option Addr) (c1 c2 co : Nat) (fl : Value) (b : CkB) (pm : Int → Option PkN) (pr : Int → Bool) (c : CkS) (x kd n ar p r : Int) (X : World) : Prop where
  bl : Below w.heap.size w X
  c : CkAt F A1 A2 O c1 c2 co fl b pm pr c X
  e : Bl 49 w.heap.size #[.int .i64 x, .int .i64 kd, .int .i64 n, .int .i64 ar, .int .i64 p, .int .i64 r] X
  o : Rd X O (F.out.flatMap outL)
theorem OgW.up {x kd n ar p r : Int} {X Y : World} (h : OgW w F A1 A2 O c1 c2 co fl b pm pr c x kd n ar p r X) (hb : Below X.heap.size X Y) : OgW w F A1 A2 O c1 c2 co fl b pm pr c x kd n ar p r Y := ⟨below_next h.bl hb, h.c.up hb, h.e.up hb, h.o.below hb⟩
def hitO (e : Ev) (o : OutN) : Bool := ((o.k == e.a) && (o.m == e.r)) && (((e.k == 5) && (o.fr == e.t)) || ((e.k == 6) && (o.tu == e.t)))
set_option maxRecDepth 100000 in
set_option maxHeartbeats 8000000 in
theorem ru_outage5 (c : CkS) (x n ar p r : Int) (hC : CkAt F A1 A2 O c1 c2 co fl b pm pr c w) (hO : Rd w O (F.out.flatMap outL)) (hlo : F.out.length ≤ 100000) :
    Calls Try.prog 19 #[.pointer (some ⟨b.cb, 0, none⟩), .agg #[.int .i64 x, .int .i64 5, .int .i64 n, .int .i64 ar, .int .i64 p, .int .i64 r]] w (RetRu w (!(F.out.any (hitO ⟨x, 5, n, ar, p, r⟩)))) := by
  obtain ⟨R, hR⟩ : ∃ R : Bool, R = (!(F.out.any (hitO ⟨x, 5, n, ar, p, r⟩))) := ⟨_, rfl⟩
  rw [← hR]
  have HR := Lib.hid hR
  clear hR
  have HB := below_box w (.cells #[.int .i64 x, .int .i64 5, .int .i64 n, .int .i64 ar, .int .i64 p, .int .i64 r] 49)
  have HX : Hid (OgW w F A1 A2 O c1 c2 co fl b pm pr c x 5 n ar p r (w.alloc (.cells #[.int .i64 x, .int .i64 5, .int .i64 n, .int .i64 ar, .int .i64 p, .int .i64 r] 49))) := Lib.hid ⟨HB, hC.up HB, Bl.new w _ _, hO.below HB⟩
  obtain ⟨X, hX⟩ : ∃ X, X = w.alloc (.cells #[.int .i64 x, .int .i64 5, .int .i64 n, .int .i64 ar, .int .i64 p, .int .i64 r] 49) := ⟨_, rfl⟩
  rw [← hX] at HX
  clear HB hC hO
  obtain ⟨e0, e1, e2, e3, e4, e5, _⟩ := HX.out.e.c6
  have q6 := HX.out.c.q6
  go_enter Try.func19, Try.ntmps19
  go_upto_region 1 with fail
  rw [← hX]
  clear hX
  go_wp2_with fail
  go_loopw [21] (fun i wr => ∃ k : Nat, k ≤ F.out.length ∧ i = .int .i64 k ∧ Hid (OgW w F A1 A2 O c1 c2 co fl b pm pr c x 5 n ar p r wr) ∧ Hid ((F.out.take k).any (hitO ⟨x, 5, n, ar, p, r⟩) = false)) (fun i _ => F.out.length - (intOf i).toNat)
  case atStart => exact ⟨0, Nat.zero_le _, rfl, HX, Lib.hid rfl⟩
  case round =>
    clear HX e0 e1 e2 e3 e4 e5 q6
    obtain ⟨k, hk, rfl, HX, HK⟩ := hrel
    obtain ⟨e0, e1, e2, e3, e4, e5, _⟩ := HX.out.e.c6
    by_cases hlt : k < F.out.length
    · have hlt' : (k : Int) < (F.out.length : Int) := by omega
      obtain ⟨oo, hoo⟩ : ∃ oo, F.out[k]? = some oo := ⟨_, List.getElem?_eq_getElem hlt⟩
      obtain ⟨bz, oz, hAz, hcz⟩ := row_at (s := 4) (fun _ => rfl) (by omega) HX.out.o hoo
      have HTK : Hid (F.out.take (k + 1) = F.out.take k ++ [oo]) := Lib.hid (by rw [List.take_add_one, hoo]; rfl)
      have HM : Hid (oo ∈ F.out) := Lib.hid (List.mem_of_getElem? hoo)
      obtain ⟨fr, tu, ck, cm⟩ := oo
      have z0 := hcz 0 (.int .i64 fr) rfl
      have z1 := hcz 1 (.int .i64 tu) rfl
      have z2 := hcz 2 (.int .i64 ck) rfl
      have z3 := hcz 3 (.int .i64 cm) rfl
      rw [Nat.add_zero] at z0
      have HAZ := Lib.hid hAz
      clear hcz hoo
      subst hAz
      go_upto_region 6 with fail
      obtain ⟨nb, hnb⟩ : ∃ nb, nb = wr.heap.size := ⟨_, rfl⟩
      refine wp_named5 (fun Y => OgW w F A1 A2 (some ⟨bz, oz, none⟩) c1 c2 co fl b pm pr c x 5 n ar p r Y ∧ Bl 79 nb #[.int .i64 fr, .int .i64 tu, .int .i64 ck, .int .i64 cm] Y) ⟨HX.out.up (below_box wr _), by rw [hnb]; exact Bl.new wr _ _⟩ ?_
      rw [← hnb]
      clear hnb HX e0 e1 e2 e3 e4 e5 z0 z1 z2 z3
      rintro Y ⟨hY, hZ⟩
      have HX := Lib.hid hY
      have HZ := Lib.hid hZ
      clear hY hZ
      obtain ⟨e0, e1, e2, e3, e4, e5, _⟩ := HX.out.e.c6
      obtain ⟨z0, z1, z2, z3, _⟩ := HZ.out.c4
      have HCO := Lib.hid (fun (W : World) => vy_componentOf (w := W) x 5 n ar p r)
      have hneq := cm_neq ck cm ar r
      cases hm : ((ck == ar) && (cm == r)) with
      | false =>
        replace hneq : ∀ W, _ := fun W => (hneq W).trans (by rw [hm])
        have HNH : Hid (hitO ⟨x, 5, n, ar, p, r⟩ ⟨fr, tu, ck, cm⟩ = false) := Lib.hid (by simp only [hitO, hm, Bool.false_and])
        clear hm
        have kq_e0 := cell_regrown e0
        have kq_e1 := cell_regrown e1
        have kq_e2 := cell_regrown e2
        have kq_e3 := cell_regrown e3
        have kq_e4 := cell_regrown e4
        have kq_e5 := cell_regrown e5
        have kq_z0 := cell_regrown z0
        have kq_z1 := cell_regrown z1
        have kq_z2 := cell_regrown z2
        have kq_z3 := cell_regrown z3
        refine wp_region_quiet_below (by kernel_rfl) (by kernel_rfl) ?_
        repeat (go_big_quiet_step ((with_reducible exact Calls.regrown_of (HCO.out _))))
        refine wpQuiet_nil ?_
        intro W2 hb2
        replace hb2 := below_of_regrown hb2
        clear kq_e0 kq_e1 kq_e2 kq_e3 kq_e4 kq_e5 kq_z0 kq_z1 kq_z2 kq_z3
        replace e0 := cell_up hb2 e0
        replace e1 := cell_up hb2 e1
        replace e2 := cell_up hb2 e2
        replace e3 := cell_up hb2 e3
        replace e4 := cell_up hb2 e4
        replace e5 := cell_up hb2 e5
        replace z0 := cell_up hb2 z0
        replace z1 := cell_up hb2 z1
        replace z2 := cell_up hb2 z2
        replace z3 := cell_up hb2 z3
        replace HX := Lib.hid (HX.out.up hb2)
        clear hneq
        go_wp2_with fail
        go_roundw
        case rel => exact ⟨k + 1, by omega, by go_num, HX, Lib.hid (by rw [HTK.out, List.any_append, HK.out]; simp [HNH.out])⟩
        case measure => simp [intOf]; omega
      | true =>
        replace hneq : ∀ W, _ := fun W => (hneq W).trans (by rw [hm])
        by_cases hf : fr = x
        · have hfb : (fr == x) = true := by simp [hf]
          have HRV : Hid (R = false) := Lib.hid (by
            rw [HR.out, Bool.not_eq_false', List.any_eq_true]
            exact ⟨_, HM.out, by simp [hitO, hm, hf]⟩)
          clear hm hf HR
          have kq_e0 := cell_regrown e0
          have kq_e1 := cell_regrown e1
          have kq_e2 := cell_regrown e2
          have kq_e3 := cell_regrown e3
          have kq_e4 := cell_regrown e4
          have kq_e5 := cell_regrown e5
          have kq_z0 := cell_regrown z0
          have kq_z1 := cell_regrown z1
          have kq_z2 := cell_regrown z2
          have kq_z3 := cell_regrown z3
          refine wp_region_quiet_below (by kernel_rfl) (by kernel_rfl) ?_
          repeat (go_big_quiet_step ((with_reducible exact Calls.regrown_of (HCO.out _))))
          refine wpQuiet_nil ?_
          intro W2 hb2
          replace hb2 := below_of_regrown hb2
          clear kq_e0 kq_e1 kq_e2 kq_e3 kq_e4 kq_e5 kq_z0 kq_z1 kq_z2 kq_z3
          replace e0 := cell_up hb2 e0
          replace e1 := cell_up hb2 e1
          replace e2 := cell_up hb2 e2
          replace e3 := cell_up hb2 e3
          replace e4 := cell_up hb2 e4
          replace e5 := cell_up hb2 e5
          replace z0 := cell_up hb2 z0
          replace z1 := cell_up hb2 z1
          replace z2 := cell_up hb2 z2
          replace z3 := cell_up hb2 z3
          replace HX := Lib.hid (HX.out.up hb2)
          clear hneq
          go_wp2_with fail
          go_ret
          exact ⟨by rw [HRV.out]; rfl, HX.out.bl⟩
        · have hfb : (fr == x) = false := by simp [hf]
          have HNH : Hid (hitO ⟨x, 5, n, ar, p, r⟩ ⟨fr, tu, ck, cm⟩ = false) := Lib.hid (by simp [hitO, hf])
          clear hm hf
          have kq_e0 := cell_regrown e0
          have kq_e1 := cell_regrown e1
          have kq_e2 := cell_regrown e2
          have kq_e3 := cell_regrown e3
          have kq_e4 := cell_regrown e4
          have kq_e5 := cell_regrown e5
          have kq_z0 := cell_regrown z0
          have kq_z1 := cell_regrown z1
          have kq_z2 := cell_regrown z2
          have kq_z3 := cell_regrown z3
          refine wp_region_quiet_below (by kernel_rfl) (by kernel_rfl) ?_
          repeat (go_big_quiet_step ((with_reducible exact Calls.regrown_of (HCO.out _))))
          refine wpQuiet_nil ?_
          intro W2 hb2
          replace hb2 := below_of_regrown hb2
          clear kq_e0 kq_e1 kq_e2 kq_e3 kq_e4 kq_e5 kq_z0 kq_z1 kq_z2 kq_z3
          replace e0 := cell_up hb2 e0
          replace e1 := cell_up hb2 e1
          replace e2 := cell_up hb2 e2
          replace e3 := cell_up hb2 e3
          replace e4 := cell_up hb2 e4
          replace e5 := cell_up hb2 e5
          replace z0 := cell_up hb2 z0
          replace z1 := cell_up hb2 z1
          replace z2 := cell_up hb2 z2
          replace z3 := cell_up hb2 z3
          replace HX := Lib.hid (HX.out.up hb2)
          clear hneq
          go_wp2_with fail
          go_roundw
          case rel => exact ⟨k + 1, by omega, by go_num, HX, Lib.hid (by rw [HTK.out, List.any_append, HK.out]; simp [HNH.out])⟩
          case measure => simp [intOf]; omega
    · obtain rfl : k = F.out.length := by omega
      have HRV : Hid (R = true) := Lib.hid (by have h := HK.out; rw [List.take_length] at h; rw [HR.out, h]; rfl)
      go_wp2_with fail
      go_ret
      exact ⟨by rw [HRV.out]; rfl, HX.out.bl⟩
set_option maxRecDepth 100000 in
set_option maxHeartbeats 8000000 in
theorem ru_outage6 (c : CkS) (x n ar p r : Int) (hC : CkAt F A1 A2 O c1 c2 co fl b pm pr c w) (hO : Rd w O (F.out.flatMap outL)) (hlo : F.out.length ≤ 100000) :
    Calls Try.prog 19 #[.pointer (some ⟨b.cb, 0, none⟩), .agg #[.int .i64 x, .int .i64 6, .int .i64 n, .int .i64 ar, .int .i64 p, .int .i64 r]] w (RetRu w (!(F.out.any (hitO ⟨x, 6, n, ar, p, r⟩)))) := by
  obtain ⟨R, hR⟩ : ∃ R : Bool, R = (!(F.out.any (hitO ⟨x, 6, n, ar, p, r⟩))) := ⟨_, rfl⟩
  rw [← hR]
  have HR := Lib.hid hR
  clear hR
  have HB := below_box w (.cells #[.int .i64 x, .int .i64 6, .int .i64 n, .int .i64 ar, .int .i64 p, .int .i64 r] 49)
  have HX : Hid (OgW w F A1 A2 O c1 c2 co fl b pm pr c x 6 n ar p r (w.alloc (.cells #[.int .i64 x, .int .i64 6, .int .i64 n, .int .i64 ar, .int .i64 p, .int .i64 r] 49))) := Lib.hid ⟨HB, hC.up HB, Bl.new w _ _, hO.below HB⟩
  obtain ⟨X, hX⟩ : ∃ X, X = w.alloc (.cells #[.int .i64 x, .int .i64 6, .int .i64 n, .int .i64 ar, .int .i64 p, .int .i64 r] 49) := ⟨_, rfl⟩
  rw [← hX] at HX
  clear HB hC hO
  obtain ⟨e0, e1, e2, e3, e4, e5, _⟩ := HX.out.e.c6
  have q6 := HX.out.c.q6
  go_enter Try.func19, Try.ntmps19
  go_upto_region 1 with fail
  rw [← hX]
  clear hX
  go_wp2_with fail
  go_loopw [21] (fun i wr => ∃ k : Nat, k ≤ F.out.length ∧ i = .int .i64 k ∧ Hid (OgW w F A1 A2 O c1 c2 co fl b pm pr c x 6 n ar p r wr) ∧ Hid ((F.out.take k).any (hitO ⟨x, 6, n, ar, p, r⟩) = false)) (fun i _ => F.out.length - (intOf i).toNat)
  case atStart => exact ⟨0, Nat.zero_le _, rfl, HX, Lib.hid rfl⟩
  case round =>
    clear HX e0 e1 e2 e3 e4 e5 q6
    obtain ⟨k, hk, rfl, HX, HK⟩ := hrel
    obtain ⟨e0, e1, e2, e3, e4, e5, _⟩ := HX.out.e.c6
    by_cases hlt : k < F.out.length
    · have hlt' : (k : Int) < (F.out.length : Int) := by omega
      obtain ⟨oo, hoo⟩ : ∃ oo, F.out[k]? = some oo := ⟨_, List.getElem?_eq_getElem hlt⟩
      obtain ⟨bz, oz, hAz, hcz⟩ := row_at (s := 4) (fun _ => rfl) (by omega) HX.out.o hoo
      have HTK : Hid (F.out.take (k + 1) = F.out.take k ++ [oo]) := Lib.hid (by rw [List.take_add_one, hoo]; rfl)
      have HM : Hid (oo ∈ F.out) := Lib.hid (List.mem_of_getElem? hoo)
      obtain ⟨fr, tu, ck, cm⟩ := oo
      have z0 := hcz 0 (.int .i64 fr) rfl
      have z1 := hcz 1 (.int .i64 tu) rfl
      have z2 := hcz 2 (.int .i64 ck) rfl
      have z3 := hcz 3 (.int .i64 cm) rfl
      rw [Nat.add_zero] at z0
      have HAZ := Lib.hid hAz
      clear hcz hoo
      subst hAz
      go_upto_region 6 with fail
      obtain ⟨nb, hnb⟩ : ∃ nb, nb = wr.heap.size := ⟨_, rfl⟩
      refine wp_named5 (fun Y => OgW w F A1 A2 (some ⟨bz, oz, none⟩) c1 c2 co fl b pm pr c x 6 n ar p r Y ∧ Bl 79 nb #[.int .i64 fr, .int .i64 tu, .int .i64 ck, .int .i64 cm] Y) ⟨HX.out.up (below_box wr _), by rw [hnb]; exact Bl.new wr _ _⟩ ?_
      rw [← hnb]
      clear hnb HX e0 e1 e2 e3 e4 e5 z0 z1 z2 z3
      rintro Y ⟨hY, hZ⟩
      have HX := Lib.hid hY
      have HZ := Lib.hid hZ
      clear hY hZ
      obtain ⟨e0, e1, e2, e3, e4, e5, _⟩ := HX.out.e.c6
      obtain ⟨z0, z1, z2, z3, _⟩ := HZ.out.c4
      have HCO := Lib.hid (fun (W : World) => vy_componentOf (w := W) x 6 n ar p r)
      have hneq := cm_neq ck cm ar r
      cases hm : ((ck == ar) && (cm == r)) with
      | false =>
        replace hneq : ∀ W, _ := fun W => (hneq W).trans (by rw [hm])
        have HNH : Hid (hitO ⟨x, 6, n, ar, p, r⟩ ⟨fr, tu, ck, cm⟩ = false) := Lib.hid (by simp only [hitO, hm, Bool.false_and])
        clear hm
        have kq_e0 := cell_regrown e0
        have kq_e1 := cell_regrown e1
        have kq_e2 := cell_regrown e2
        have kq_e3 := cell_regrown e3
        have kq_e4 := cell_regrown e4
        have kq_e5 := cell_regrown e5
        have kq_z0 := cell_regrown z0
        have kq_z1 := cell_regrown z1
        have kq_z2 := cell_regrown z2
        have kq_z3 := cell_regrown z3
        refine wp_region_quiet_below (by kernel_rfl) (by kernel_rfl) ?_
        repeat (go_big_quiet_step ((with_reducible exact Calls.regrown_of (HCO.out _))))
        refine wpQuiet_nil ?_
        intro W2 hb2
        replace hb2 := below_of_regrown hb2
        clear kq_e0 kq_e1 kq_e2 kq_e3 kq_e4 kq_e5 kq_z0 kq_z1 kq_z2 kq_z3
        replace e0 := cell_up hb2 e0
        replace e1 := cell_up hb2 e1
        replace e2 := cell_up hb2 e2
        replace e3 := cell_up hb2 e3
        replace e4 := cell_up hb2 e4
        replace e5 := cell_up hb2 e5
        replace z0 := cell_up hb2 z0
        replace z1 := cell_up hb2 z1
        replace z2 := cell_up hb2 z2
        replace z3 := cell_up hb2 z3
        replace HX := Lib.hid (HX.out.up hb2)
        clear hneq
        go_wp2_with fail
        go_roundw
        case rel => exact ⟨k + 1, by omega, by go_num, HX, Lib.hid (by rw [HTK.out, List.any_append, HK.out]; simp [HNH.out])⟩
        case measure => simp [intOf]; omega
      | true =>
        replace hneq : ∀ W, _ := fun W => (hneq W).trans (by rw [hm])
        by_cases hf : tu = x
        · have hfb : (tu == x) = true := by simp [hf]
          have HRV : Hid (R = false) := Lib.hid (by
            rw [HR.out, Bool.not_eq_false', List.any_eq_true]
            exact ⟨_, HM.out, by simp [hitO, hm, hf]⟩)
          clear hm hf HR
          have kq_e0 := cell_regrown e0
          have kq_e1 := cell_regrown e1
          have kq_e2 := cell_regrown e2
          have kq_e3 := cell_regrown e3
          have kq_e4 := cell_regrown e4
          have kq_e5 := cell_regrown e5
          have kq_z0 := cell_regrown z0
          have kq_z1 := cell_regrown z1
          have kq_z2 := cell_regrown z2
          have kq_z3 := cell_regrown z3
          refine wp_region_quiet_below (by kernel_rfl) (by kernel_rfl) ?_
          repeat (go_big_quiet_step ((with_reducible exact Calls.regrown_of (HCO.out _))))
          refine wpQuiet_nil ?_
          intro W2 hb2
          replace hb2 := below_of_regrown hb2
          clear kq_e0 kq_e1 kq_e2 kq_e3 kq_e4 kq_e5 kq_z0 kq_z1 kq_z2 kq_z3
          replace e0 := cell_up hb2 e0
          replace e1 := cell_up hb2 e1
          replace e2 := cell_up hb2 e2
          replace e3 := cell_up hb2 e3
          replace e4 := cell_up hb2 e4
          replace e5 := cell_up hb2 e5
          replace z0 := cell_up hb2 z0
          replace z1 := cell_up hb2 z1
          replace z2 := cell_up hb2 z2
          replace z3 := cell_up hb2 z3
          replace HX := Lib.hid (HX.out.up hb2)
          clear hneq
          go_wp2_with fail
          go_ret
          exact ⟨by rw [HRV.out]; rfl, HX.out.bl⟩
        · have hfb : (tu == x) = false := by simp [hf]
          have HNH : Hid (hitO ⟨x, 6, n, ar, p, r⟩ ⟨fr, tu, ck, cm⟩ = false) := Lib.hid (by simp [hitO, hf])
          clear hm hf
          have kq_e0 := cell_regrown e0
          have kq_e1 := cell_regrown e1
          have kq_e2 := cell_regrown e2
          have kq_e3 := cell_regrown e3
          have kq_e4 := cell_regrown e4
          have kq_e5 := cell_regrown e5
          have kq_z0 := cell_regrown z0
          have kq_z1 := cell_regrown z1
          have kq_z2 := cell_regrown z2
          have kq_z3 := cell_regrown z3
          refine wp_region_quiet_below (by kernel_rfl) (by kernel_rfl) ?_
          repeat (go_big_quiet_step ((with_reducible exact Calls.regrown_of (HCO.out _))))
          refine wpQuiet_nil ?_
          intro W2 hb2
          replace hb2 := below_of_regrown hb2
          clear kq_e0 kq_e1 kq_e2 kq_e3 kq_e4 kq_e5 kq_z0 kq_z1 kq_z2 kq_z3
          replace e0 := cell_up hb2 e0
          replace e1 := cell_up hb2 e1
          replace e2 := cell_up hb2 e2
          replace e3 := cell_up hb2 e3
          replace e4 := cell_up hb2 e4
          replace e5 := cell_up hb2 e5
          replace z0 := cell_up hb2 z0
          replace z1 := cell_up hb2 z1
          replace z2 := cell_up hb2 z2
          replace z3 := cell_up hb2 z3
          replace HX := Lib.hid (HX.out.up hb2)
          clear hneq
          go_wp2_with fail
          go_roundw
          case rel => exact ⟨k + 1, by omega, by go_num, HX, Lib.hid (by rw [HTK.out, List.any_append, HK.out]; simp [HNH.out])⟩
          case measure => simp [intOf]; omega
    · obtain rfl : k = F.out.length := by omega
      have HRV : Hid (R = true) := Lib.hid (by have h := HK.out; rw [List.take_length] at h; rw [HR.out, h]; rfl)
      go_wp2_with fail
      go_ret
      exact ⟨by rw [HRV.out]; rfl, HX.out.bl⟩
set_option maxRecDepth 100000 in
set_option maxHeartbeats 8000000 in
theorem ru_outage (c : CkS) (x kd n ar p r : Int) (hC : CkAt F A1 A2 O c1 c2 co fl b pm pr c w) (hO : Rd w O (F.out.flatMap outL)) (hlo : F.out.length ≤ 100000) :
    Calls Try.prog 19 #[.pointer (some ⟨b.cb, 0, none⟩), .agg #[.int .i64 x, .int .i64 kd, .int .i64 n, .int .i64 ar, .int .i64 p, .int .i64 r]] w (RetRu w (outgV F ⟨x, kd, n, ar, p, r⟩)) := by
  by_cases h5 : kd = 5
  · subst h5
    rw [show outgV F ⟨x, 5, n, ar, p, r⟩ = !(F.out.any (hitO ⟨x, 5, n, ar, p, r⟩)) from if_pos (.inl rfl)]
    exact ru_outage5 c x n ar p r hC hO hlo
  by_cases h6 : kd = 6
  · subst h6
    rw [show outgV F ⟨x, 6, n, ar, p, r⟩ = !(F.out.any (hitO ⟨x, 6, n, ar, p, r⟩)) from if_pos (.inr rfl)]
    exact ru_outage6 c x n ar p r hC hO hlo
  rw [show outgV F ⟨x, kd, n, ar, p, r⟩ = false from if_neg (fun h => h.elim h5 h6)]
  have h5b : (kd != 5) = true := by simp [h5]
  have h6b : (kd != 6) = true := by simp [h6]
  have HB := Lib.hid (below_box w (.cells #[.int .i64 x, .int .i64 kd, .int .i64 n, .int .i64 ar, .int .i64 p, .int .i64 r] 49))
  have HE := Lib.hid (Bl.new w #[.int .i64 x, .int .i64 kd, .int .i64 n, .int .i64 ar, .int .i64 p, .int .i64 r] 49)
  obtain ⟨e0, e1, e2, e3, e4, e5, _⟩ := HE.out.c6
  clear hC hO h5 h6
  go_enter Try.func19, Try.ntmps19
  go_wp2_with fail
  go_ret
  exact ⟨rfl, HB.out⟩
end
end Go.Proofs.Ytdnjflpmbnjgeaa
