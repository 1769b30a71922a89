/-
  waypointref56.Same and waypointlaw56.large (printed by gen_vl0.py).
  waypointlaw56.awake (printed by gen_vl1.py).
  A drawn region of operations that read, or make memory, in whatever order: of each value a fact is known that lasts.
-/
import Derived.Test.YtdnjflpmbnjgeaaVk
import Derived.Test.YtdnjflpmbnjgeaaMkR
namespace Go.Proofs.Ytdnjflpmbnjgeaa
set_option linter.unusedSimpArgs false
set_option linter.unusedVariables false
open Go.RowKit Go.Sort
theorem vi_eq (a b c d : Int) (w : World) : (Op.equalIn 10000 42 (.agg #[.int .i64 a, .int .i64 b]) (.agg #[.int .i64 c, .int .i64 d])).run Try.prog w = .ok ((a == c) && ((b == d) && true)) w := by
  rw [run_equalIn_struct w 9999 42 _ _ (by kernel_rfl) (by kernel_rfl)]
  simp only [Program.fieldsOf, Try.underlying42]
  exact eqV_int (by decide) rfl rfl rfl (eqV_int (by decide) rfl rfl rfl (by simp [Op.eqFields]))
theorem vi_neq (a b c d : Int) (w : World) : (binOp .neq 42 (.agg #[.int .i64 a, .int .i64 b]) (.agg #[.int .i64 c, .int .i64 d])).run Try.prog w = .ok (.bool (!((a == c) && (b == d)))) w := by
  rw [run_neq_struct, vi_eq]; simp
theorem vi_eql (a b c d : Int) (w : World) : (binOp .eql 41 (.agg #[.int .i64 a, .int .i64 b]) (.agg #[.int .i64 c, .int .i64 d])).run Try.prog w = .ok (.bool ((a == c) && (b == d))) w := by
  rw [run_eql_struct, run_equalIn_struct w 9999 41 _ _ (by kernel_rfl) (by kernel_rfl)]
  simp only [Program.fieldsOf, Try.underlying41]
  rw [eqV_int (by decide) rfl rfl rfl (eqV_int (by decide) rfl rfl rfl (by simp [Op.eqFields] : (Op.eqFields 9999 _ _ []).run Try.prog w = .ok true w))]
  simp
theorem bl9 {T : TypeId} {b : Nat} {x0 x1 x2 x3 x4 x5 x6 x7 x8 : Value} {w : World} (h : Bl T b #[x0, x1, x2, x3, x4, x5, x6, x7, x8] w) : w.cell? ⟨b, 0, none⟩ = some x0 ∧ w.cell? ⟨b, 1, none⟩ = some x1 ∧ w.cell? ⟨b, 2, none⟩ = some x2 ∧ w.cell? ⟨b, 3, none⟩ = some x3 ∧ w.cell? ⟨b, 4, none⟩ = some x4 ∧ w.cell? ⟨b, 5, none⟩ = some x5 ∧ w.cell? ⟨b, 6, none⟩ = some x6 ∧ w.cell? ⟨b, 7, none⟩ = some x7 ∧ w.cell? ⟨b, 8, none⟩ = some x8 ∧ ∀ i, w.frozen? ⟨b, i, none⟩ = false :=
  ⟨h.cell 0 rfl, h.cell 1 rfl, h.cell 2 rfl, h.cell 3 rfl, h.cell 4 rfl, h.cell 5 rfl, h.cell 6 rfl, h.cell 7 rfl, h.cell 8 rfl, h.frz⟩
section
variable {w : World}
set_option maxRecDepth 100000 in
set_option maxHeartbeats 8000000 in
theorem ref56_Same (A : Option Addr) (B : Option Addr) (ca cb : Nat) (l : List (Int × Int)) (hA : Rd w A (l.flatMap vioL)) (hB : Rd w B (l.flatMap vioL)) (hl : l.length ≤ 100000000) :
    Calls Try.prog 7 #[.slice A l.length ca, .slice B l.length cb] w fun e w' => e = .returned (.bool true) ∧ Below w.heap.size w w' := by
  have HA := Lib.hid hA
  have HB := Lib.hid hB
  clear hA hB
  go_enter Try.func7, Try.ntmps7
  go_wp2_with fail
  go_loopw [5] (fun i wr => ∃ k : Nat, k ≤ l.length ∧ i = .int .i64 k ∧ Hid (Below w.heap.size w wr)) (fun i _ => l.length - (intOf i).toNat)
  case atStart => exact ⟨0, Nat.zero_le _, rfl, Lib.hid (by (repeat' (first | (with_reducible exact (Below.refl _ _)) | (with_reducible refine Bset ?_ ?_) | (with_reducible refine Bdrw ?_) | (with_reducible refine Bbox ?_ ?_) | omega | (simp; done) | (simp; omega))))⟩
  case round =>
    obtain ⟨k, hk, rfl, HW⟩ := hrel
    by_cases hlt : k < l.length
    · have hlt' : (k : Int) < (l.length : Int) := by omega
      obtain ⟨x, hx⟩ : ∃ x, l[k]? = some x := ⟨_, List.getElem?_eq_getElem hlt⟩
      obtain ⟨ba, oa, hAz, hca⟩ := row_at (s := 2) (fun _ => rfl) (by omega) (HA.out.below HW.out) hx
      obtain ⟨bb, ob, hBz, hcb⟩ := row_at (s := 2) (fun _ => rfl) (by omega) (HB.out.below HW.out) hx
      obtain ⟨x0, x1⟩ := x
      have a0 := hca 0 (.int .i64 x0) rfl
      have a1 := hca 1 (.int .i64 x1) rfl
      have b0 := hcb 0 (.int .i64 x0) rfl
      have b1 := hcb 1 (.int .i64 x1) rfl
      rw [Nat.add_zero] at a0 b0
      have hneq : ∀ W, _ := fun W => (vi_neq x0 x1 x0 x1 W).trans (by rw [show (!((x0 == x0) && (x1 == x1))) = false from by simp])
      clear hca hcb hx
      subst hAz hBz
      go_upto_region 6 with fail
      have kq_a0 := cell_regrown a0
      have kq_a1 := cell_regrown a1
      have kq_b0 := cell_regrown b0
      have kq_b1 := cell_regrown b1
      refine wp_region_quiet_below (by kernel_rfl) (by kernel_rfl) ?_
      repeat (go_big_quiet_step ((fail)))
      refine wpQuiet_nil ?_
      intro W2 hb2
      replace hb2 := below_of_regrown hb2
      clear kq_a0 kq_a1 kq_b0 kq_b1
      replace a0 := cell_up hb2 a0
      replace a1 := cell_up hb2 a1
      replace b0 := cell_up hb2 b0
      replace b1 := cell_up hb2 b1
      have HW2 := Lib.hid (below_next HW.out hb2)
      clear hneq a0 a1 b0 b1 hb2
      go_wp2_with fail
      go_roundw
      case rel => exact ⟨k + 1, by omega, by go_num, HW2⟩
      case measure => simp [intOf]; omega
    · obtain rfl : k = l.length := by omega
      go_wp2_with fail
      go_ret
      exact ⟨rfl, HW.out⟩
/-- A case that is too large. -/
def lgB (F : FaN) (ps : List PkN) (tr : List Ev) : Bool := (decide (F.t.n > 10) || (decide ((F.t.ls.length : Int) > 16) || (decide ((F.out.length : Int) > 20) || (decide ((ps.length : Int) > 30) || decide ((tr.length : Int) > 60))))) || ps.any (fun p => decide ((p.sn : Int) > 40))
set_option maxRecDepth 100000 in
set_option maxHeartbeats 8000000 in
theorem law56_large (F : FaN) (ps : List PkN) (tr : List Ev) (A1 A2 O B C : Option Addr) (c1 c2 co cp ct : Nat) (hP : Rd w B (ps.flatMap pkL)) :
    Calls Try.prog 5 #[.agg #[.int .i64 F.t.n, .slice A1 F.t.ov.length c1, .slice A2 F.t.ls.length c2, .int .i64 F.det, .int .i64 F.ga, .int .i64 F.ho, .slice O F.out.length co, .slice B ps.length cp, .slice C tr.length ct]] w fun e w' => e = .returned (.bool (lgB F ps tr)) ∧ Below w.heap.size w w' := by
  obtain ⟨R, hR⟩ : ∃ R, R = lgB F ps tr := ⟨_, rfl⟩
  rw [← hR]
  have HR := Lib.hid hR
  have HP := Lib.hid hP
  have HB := Lib.hid (below_box w (.cells #[.int .i64 F.t.n, .slice A1 F.t.ov.length c1, .slice A2 F.t.ls.length c2, .int .i64 F.det, .int .i64 F.ga, .int .i64 F.ho, .slice O F.out.length co, .slice B ps.length cp, .slice C tr.length ct] 32))
  have HX := Lib.hid (Bl.new w #[.int .i64 F.t.n, .slice A1 F.t.ov.length c1, .slice A2 F.t.ls.length c2, .int .i64 F.det, .int .i64 F.ga, .int .i64 F.ho, .slice O F.out.length co, .slice B ps.length cp, .slice C tr.length ct] 32)
  obtain ⟨f0, f1, f2, f3, f4, f5, f6, f7, f8, _⟩ := bl9 HX.out
  clear hR hP
  by_cases g0 : F.t.n > 10
  · have d0 : decide (F.t.n > 10) = true := by simp [g0]
    have HRV : Hid (R = true) := Lib.hid (by rw [HR.out, lgB, d0]; rfl)
    clear g0
    go_enter Try.func5, Try.ntmps5
    go_wp2_with fail
    go_ret
    exact ⟨by rw [HRV.out]; rfl, HB.out⟩
  have d0 : decide (F.t.n > 10) = false := by simp [g0]
  by_cases g1 : (F.t.ls.length : Int) > 16
  · have d1 : decide ((F.t.ls.length : Int) > 16) = true := by simp [g1]
    have HRV : Hid (R = true) := Lib.hid (by rw [HR.out, lgB, d0, d1]; rfl)
    clear g0 g1
    go_enter Try.func5, Try.ntmps5
    go_wp2_with fail
    go_ret
    exact ⟨by rw [HRV.out]; rfl, HB.out⟩
  have d1 : decide ((F.t.ls.length : Int) > 16) = false := by simp [g1]
  by_cases g2 : (F.out.length : Int) > 20
  · have d2 : decide ((F.out.length : Int) > 20) = true := by simp [g2]
    have HRV : Hid (R = true) := Lib.hid (by rw [HR.out, lgB, d0, d1, d2]; rfl)
    clear g0 g1 g2
    go_enter Try.func5, Try.ntmps5
    go_wp2_with fail
    go_ret
    exact ⟨by rw [HRV.out]; rfl, HB.out⟩
  have d2 : decide ((F.out.length : Int) > 20) = false := by simp [g2]
  by_cases g3 : (ps.length : Int) > 30
  · have d3 : decide ((ps.length : Int) > 30) = true := by simp [g3]
    have HRV : Hid (R = true) := Lib.hid (by rw [HR.out, lgB, d0, d1, d2, d3]; rfl)
    clear g0 g1 g2 g3
    go_enter Try.func5, Try.ntmps5
    go_wp2_with fail
    go_ret
    exact ⟨by rw [HRV.out]; rfl, HB.out⟩
  have d3 : decide ((ps.length : Int) > 30) = false := by simp [g3]
  by_cases g4 : (tr.length : Int) > 60
  · have d4 : decide ((tr.length : Int) > 60) = true := by simp [g4]
    have HRV : Hid (R = true) := Lib.hid (by rw [HR.out, lgB, d0, d1, d2, d3, d4]; rfl)
    clear g0 g1 g2 g3 g4
    go_enter Try.func5, Try.ntmps5
    go_wp2_with fail
    go_ret
    exact ⟨by rw [HRV.out]; rfl, HB.out⟩
  have d4 : decide ((tr.length : Int) > 60) = false := by simp [g4]
  replace HR : Hid (R = ps.any (fun p => decide ((p.sn : Int) > 40))) := Lib.hid (by rw [HR.out, lgB, d0, d1, d2, d3, d4]; rfl)
  have hpl : ps.length ≤ 30 := by omega
  clear g0 g1 g2 g3 g4
  obtain ⟨X, hX⟩ : ∃ X, X = w.alloc (.cells #[.int .i64 F.t.n, .slice A1 F.t.ov.length c1, .slice A2 F.t.ls.length c2, .int .i64 F.det, .int .i64 F.ga, .int .i64 F.ho, .slice O F.out.length co, .slice B ps.length cp, .slice C tr.length ct] 32) := ⟨_, rfl⟩
  rw [← hX] at HB HX f0 f1 f2 f3 f4 f5 f6 f7 f8
  go_enter Try.func5, Try.ntmps5
  go_upto_region 1 with fail
  rw [← hX]
  clear hX
  go_wp2_with fail
  clear d0 d1 d2 d3 d4
  go_loopw [3] (fun i wr => ∃ k : Nat, k ≤ ps.length ∧ i = .int .i64 k ∧ Hid (Below w.heap.size w wr) ∧ Hid (Bl 32 w.heap.size #[.int .i64 F.t.n, .slice A1 F.t.ov.length c1, .slice A2 F.t.ls.length c2, .int .i64 F.det, .int .i64 F.ga, .int .i64 F.ho, .slice O F.out.length co, .slice B ps.length cp, .slice C tr.length ct] wr) ∧ Hid ((ps.take k).any (fun p => decide ((p.sn : Int) > 40)) = false)) (fun i _ => ps.length - (intOf i).toNat)
  case atStart => exact ⟨0, Nat.zero_le _, rfl, HB, HX, Lib.hid rfl⟩
  case round =>
    clear HB HX f0 f1 f2 f3 f4 f5 f6 f7 f8
    obtain ⟨k, hk, rfl, HB, HX, HK⟩ := hrel
    obtain ⟨f0, f1, f2, f3, f4, f5, f6, f7, f8, _⟩ := bl9 HX.out
    by_cases hlt : k < ps.length
    · have hlt' : (k : Int) < (ps.length : Int) := by omega
      obtain ⟨p, hpp⟩ : ∃ p, ps[k]? = some p := ⟨_, List.getElem?_eq_getElem hlt⟩
      obtain ⟨bz, oz, hAz, hcz⟩ := row_at (s := 6) (fun _ => rfl) (by omega) (HP.out.below HB.out) hpp
      have z4 := hcz 4 (.slice p.st p.sn p.sc) rfl
      have HTK : Hid (ps.take (k + 1) = ps.take k ++ [p]) := Lib.hid (by rw [List.take_add_one, hpp]; rfl)
      have HM : Hid (p ∈ ps) := Lib.hid (List.mem_of_getElem? hpp)
      clear hcz hpp
      subst hAz
      by_cases g : (p.sn : Int) > 40
      · have d : decide ((p.sn : Int) > 40) = true := by simp [g]
        have HRV : Hid (R = true) := Lib.hid (by rw [HR.out, List.any_eq_true]; exact ⟨p, HM.out, d⟩)
        clear g
        go_wp2_with fail
        go_ret
        exact ⟨by rw [HRV.out]; rfl, HB.out⟩
      · have d : decide ((p.sn : Int) > 40) = false := by simp [g]
        have HKN : Hid ((ps.take (k + 1)).any (fun p => decide ((p.sn : Int) > 40)) = false) := Lib.hid (by rw [HTK.out, List.any_append, HK.out]; simp [d])
        clear g
        go_wp2_with fail
        go_roundw
        case rel => exact ⟨k + 1, by omega, by go_num, HB, HX, HKN⟩
        case measure => simp [intOf]; omega
    · obtain rfl : k = ps.length := by omega
      have HRV : Hid (R = false) := Lib.hid (by have h := HK.out; rw [List.take_length] at h; rw [HR.out, h])
      go_wp2_with fail
      go_ret
      exact ⟨by rw [HRV.out]; rfl, HB.out⟩
end
end Go.Proofs.Ytdnjflpmbnjgeaa
namespace Go.Proofs.Ytdnjflpmbnjgeaa
set_option linter.unusedSimpArgs false
set_option linter.unusedVariables false
open Go.RowKit Go.Sort
def awF : FaN := ⟨⟨2, [], [⟨0, 1, 1, 1, 1, 2, 0⟩]⟩, 0, 1, 1, []⟩
def awP : List PkN := [⟨7, 0, 1, 0, none, 0, 0, 0⟩]
def awT : List Ev := [⟨5, 1, 0, 0, 7, 0⟩, ⟨5, 2, 0, 0, 7, 0⟩, ⟨6, 3, 1, 0, 7, 0⟩]
theorem aw_ok : vyOk awF awP awT = true := by decide +kernel
theorem aw_prot : protV awF awT awP = fun _ => false := by
  funext id
  cases h : protV awF awT awP id with
  | false => rfl
  | true =>
    obtain ⟨o, ho, _⟩ := protV_ok h
    cases ho
theorem aw_run : runV awF awP (protV awF awT awP) (downV awF) (CkS.new awF.t) 0 awT = [(1, 5), (2, 2)] := by
  rw [aw_prot]
  decide +kernel
theorem aw_ret {w w' : World} {e : Ending} (h : RetVy awF awP awT w e w') : Below w.heap.size w w' ∧ ∃ bz oz cp, e = .returned (.tuple #[.slice (some ⟨bz, oz, none⟩) 2 cp, .int .i64 0]) ∧ w'.cell? ⟨bz, oz, none⟩ = some (.int .i64 1) ∧ w'.cell? ⟨bz, oz + 1, none⟩ = some (.int .i64 5) ∧ w'.cell? ⟨bz, oz + 2, none⟩ = some (.int .i64 2) ∧ w'.cell? ⟨bz, oz + 2 + 1, none⟩ = some (.int .i64 2) := by
  obtain ⟨hb, h⟩ := h
  rcases h with ⟨h, _⟩ | ⟨_, A, cp, l, hl, he, hr⟩
  · rw [aw_ok] at h; cases h
  · rw [aw_run] at hl
    subst hl
    rcases hr with hr | ⟨bz, oz, rfl, hc⟩
    · cases hr
    · exact ⟨hb, bz, oz, cp, he, hc 0 _ rfl, hc 1 _ rfl, hc 2 _ rfl, hc 3 _ rfl⟩
theorem rd_bl {T : TypeId} {b : Nat} {cs : List Value} {W : World} (h : Bl T b cs.toArray W) : Rd W (some ⟨b, 0, none⟩) cs :=
  .inr ⟨b, 0, rfl, fun j u hu => by rw [Nat.zero_add]; exact h.cell j (by rw [List.getElem?_toArray]; exact hu)⟩
theorem aw_tat {T : TypeId} {b : Nat} {W : World} (h : Bl T b #[.int .i64 0, .int .i64 1, .int .i64 1, .int .i64 1, .int .i64 1, .int .i64 2, .int .i64 0] W) : TAt W none (some ⟨b, 0, none⟩) awF.t := by
  refine ⟨.inl rfl, .inr ⟨b, 0, rfl, fun k l hk => ?_⟩⟩
  match k, hk with
  | 0, hk =>
    injection hk with hk
    subst hk
    exact ⟨h.cell 0 rfl, h.cell 1 rfl, h.cell 2 rfl, h.cell 3 rfl, h.cell 4 rfl, h.cell 5 rfl, h.cell 6 rfl⟩
  | k + 1, hk => cases hk
theorem aw_rde {T : TypeId} {b : Nat} {W : World} (h : Bl T b #[.int .i64 5, .int .i64 1, .int .i64 0, .int .i64 0, .int .i64 7, .int .i64 0, .int .i64 5, .int .i64 2, .int .i64 0, .int .i64 0, .int .i64 7, .int .i64 0, .int .i64 6, .int .i64 3, .int .i64 1, .int .i64 0, .int .i64 7, .int .i64 0] W) : RdE W (some ⟨b, 0, none⟩) awT := by
  refine .inr ⟨b, 0, rfl, fun k l hk => ?_⟩
  match k, hk with
  | 0, hk =>
    injection hk with hk
    subst hk
    exact ⟨h.cell 0 rfl, h.cell 1 rfl, h.cell 2 rfl, h.cell 3 rfl, h.cell 4 rfl, h.cell 5 rfl⟩
  | 1, hk =>
    injection hk with hk
    subst hk
    exact ⟨h.cell 6 rfl, h.cell 7 rfl, h.cell 8 rfl, h.cell 9 rfl, h.cell 10 rfl, h.cell 11 rfl⟩
  | 2, hk =>
    injection hk with hk
    subst hk
    exact ⟨h.cell 12 rfl, h.cell 13 rfl, h.cell 14 rfl, h.cell 15 rfl, h.cell 16 rfl, h.cell 17 rfl⟩
  | k + 3, hk => cases hk
theorem below_three (w : World) (o1 o2 o3 : Obj) : Below w.heap.size w (((w.alloc o1).alloc o2).alloc o3) := below_next (below_two w o1 o2) (below_box _ _)
section
variable {w : World}
set_option maxRecDepth 100000 in
set_option maxHeartbeats 8000000 in
theorem law56_awake : Calls Try.prog 4 #[] w fun e w' => e = .returned (.bool true) ∧ Below w.heap.size w w' := by
  go_enter Try.func4, Try.ntmps4
  go_upto_region 3 with fail
  obtain ⟨lb, hlb⟩ : ∃ lb, lb = w.heap.size := ⟨_, rfl⟩
  obtain ⟨tb, htb⟩ : ∃ tb, tb = w.heap.size + 1 := ⟨_, rfl⟩
  obtain ⟨eb, heb⟩ : ∃ eb, eb = w.heap.size + 1 + 1 := ⟨_, rfl⟩
  refine wp_named5 (fun Y => Below w.heap.size w Y ∧ Bl 47 lb #[.int .i64 0, .int .i64 1, .int .i64 1, .int .i64 1, .int .i64 1, .int .i64 2, .int .i64 0] Y ∧ Bl 25 tb #[.int .i64 2, .slice none 0 0, .slice (some ⟨lb, 0, none⟩) 1 1] Y ∧ Bl 49 eb #[.int .i64 5, .int .i64 1, .int .i64 0, .int .i64 0, .int .i64 7, .int .i64 0, .int .i64 5, .int .i64 2, .int .i64 0, .int .i64 0, .int .i64 7, .int .i64 0, .int .i64 6, .int .i64 3, .int .i64 1, .int .i64 0, .int .i64 7, .int .i64 0] Y) ⟨below_three _ _ _ _, ?_, ?_, ?_⟩ ?_
  · rw [hlb]; exact ((Bl.new w _ _).up (below_box _ _)).up (below_box _ _)
  · rw [htb, hlb]
    have h := (Bl.new (w.alloc (.cells #[.int .i64 0, .int .i64 1, .int .i64 1, .int .i64 1, .int .i64 1, .int .i64 2, .int .i64 0] 47)) #[.int .i64 2, .slice none 0 0, .slice (some ⟨w.heap.size, 0, none⟩) 1 1] 25)
    rw [World.size_alloc] at h
    exact h.up (below_box _ _)
  · rw [heb]
    have h := (Bl.new ((w.alloc (.cells #[.int .i64 0, .int .i64 1, .int .i64 1, .int .i64 1, .int .i64 1, .int .i64 2, .int .i64 0] 47)).alloc (.cells #[.int .i64 2, .slice none 0 0, .slice (some ⟨w.heap.size, 0, none⟩) 1 1] 25)) #[.int .i64 5, .int .i64 1, .int .i64 0, .int .i64 0, .int .i64 7, .int .i64 0, .int .i64 5, .int .i64 2, .int .i64 0, .int .i64 0, .int .i64 7, .int .i64 0, .int .i64 6, .int .i64 3, .int .i64 1, .int .i64 0, .int .i64 7, .int .i64 0] 49)
    rw [World.size_alloc, World.size_alloc] at h
    exact h
  · rw [← heb, ← htb, ← hlb]
    rintro Y ⟨h1, h2, h3, h4⟩
    rw [hlb] at h1
    clear hlb htb heb
    have HB := Lib.hid h1
    have HL := Lib.hid h2
    have HT := Lib.hid h3
    have HE := Lib.hid h4
    clear h1 h2 h3 h4
    obtain ⟨t0, t1, t2, _⟩ := HT.out.c3
    have hZ := below_box Y (.cells #[.int .i64 7, .int .i64 0, .int .i64 1, .int .i64 0, .slice none 0 0, .int .i64 0] 52)
    have HCK := Lib.hid (vy_Check (w := Y.alloc (.cells #[.int .i64 7, .int .i64 0, .int .i64 1, .int .i64 0, .slice none 0 0, .int .i64 0] 52)) awF awP awT none (some ⟨lb, 0, none⟩) none (some ⟨Y.heap.size, 0, none⟩) (some ⟨eb, 0, none⟩) 0 1 0 1 3 (aw_tat (HL.out.up hZ)) (.inl rfl) (rd_bl (cs := [.int .i64 7, .int .i64 0, .int .i64 1, .int .i64 0, .slice none 0 0, .int .i64 0]) (Bl.new Y _ _)) (aw_rde (HE.out.up hZ)) (by decide) (by decide) (by decide) (by decide) (by intro p hp; simp only [awP, List.mem_singleton] at hp; subst hp; exact ⟨by unfold inJ; decide, by decide⟩))
    have HBZ := Lib.hid (below_next HB.out hZ)
    simp only [awF, awP, awT, List.length_nil, List.length_cons, Nat.zero_add] at HCK
    clear hZ
    go_wp2_with (go_at_call 6; (refine HCK.out.mono ?_); intro e w5 h5; obtain ⟨hb5, bz, oz, cp, rfl, z0, z1, z2, z3⟩ := aw_ret h5; have HB5 := Lib.hid (below_next HBZ.out hb5); clear h5 hb5; have q1 : ∀ W, _ := (fun W => vi_eql 1 5 1 5 W); have q2 : ∀ W, _ := (fun W => vi_eql 2 2 2 2 W))
    go_ret
    exact ⟨rfl, HB5.out⟩
end
end Go.Proofs.Ytdnjflpmbnjgeaa
namespace Go.Proofs.Ytdnjflpmbnjgeaa
set_option linter.unusedVariables false
open Go.RowKit Go.Sort Go.MapKept
section
variable {P : Program} {Q : Exit → Act → World → Prop}
structure MkG (n : Nat) (d : Nat → Nat) (G : Nat → Value → World → Prop) (w0 : World) (a0 : Act) (L : Array Bool) (a : Act) (w : World) (x : Nat → Value) : Prop where
  below : Below w0.heap.size w0 w
  defers : a.defers = a0.defers
  size : a.tmps.size = a0.tmps.size
  old : ∀ j, (∀ i, i < n → d i ≠ j) → a.tmps.getD j undef = a0.tmps.getD j undef
  val : ∀ i, i < n → L.getD i false = true → a.tmps.getD (d i) undef = x i
  fact : ∀ i, i < n → L.getD i false = true → G i (x i) w
theorem wp_region_mkG {l : List Oper} (n : Nat) (d : Nat → Nat) (G : Nat → Value → World → Prop) {id : Nat} {a : Act} {w : World} (hm : P.follows .mixedOrders = true) (hB : tailOk l.toArray n = true)
    (hd : ∀ i j, i < n → j < n → d i = d j → i = j) (hds : ∀ i, i < n → d i < a.tmps.size) (up : ∀ i v W W', i < n → G i v W → Below W.heap.size W W' → G i v W')
    (hs : ∀ L b W x i, i < n → MkG n d G w.drew a L b W x → i ∈ Region.ready .any l.toArray L → ∀ K : Act → World → Prop, (∀ v W', Below W.heap.size W W' → G i v W' → K (b.put (some (d i)) v) W') → wpOp P l.toArray Q i K b W)
    (hQ : ∀ (W : World) (x : Nat → Value), Below w.drew.heap.size w.drew W → (∀ i, i < n → G i (x i) W) → wpList P l.toArray Q (l.drop n) { tmps := putAll d x n a.tmps, defers := a.defers } W) : (Code.region id l.toArray true).wp P Q a w := by
  refine wp_region_inv_tail n (fun L b W => ∃ x, MkG n d G w.drew a L b W x) hm hB ?_ ?_ ?_
  · refine ⟨fun _ => undef, ⟨Below.refl _ _, rfl, rfl, fun _ _ => rfl, fun i _ h => ?_, fun i _ h => ?_⟩⟩
    all_goals (rw [getD_replicate_false] at h; cases h)
  · rintro L b W i inv ⟨x, hx⟩ hi hr
    have hl := getD_both (ready_mem.1 hr).2.1
    have hiL : i < L.size := by rw [inv.size]; exact (ready_mem.1 hr).1
    have hsz : d i < b.tmps.size := by rw [hx.size]; exact hds i hi
    refine hs L b W x i hi hx hr _ fun v W' hb hg => ⟨fun j => if j = i then v else x j, below_next hx.below hb, hx.defers, by simp [Act.put, hx.size], fun j hj => ?_, fun j hj hlj => ?_, fun j hj hlj => ?_⟩
    · show (b.tmps.setIfInBounds (d i) _).getD j undef = _
      rw [getD_setV hsz, if_neg (hj i hi)]
      exact hx.old j hj
    · show (b.tmps.setIfInBounds (d i) _).getD (d j) undef = _
      rw [getD_setL hiL] at hlj
      rw [getD_setV hsz]
      by_cases e : i = j
      · subst e; simp
      · rw [if_neg (fun e2 => e (hd i j hi hj e2)), if_neg (fun e2 => e e2.symm)]
        rw [if_neg e] at hlj
        exact hx.val j hj hlj
    · rw [getD_setL hiL] at hlj
      show G j (if j = i then v else x j) W'
      by_cases e : j = i
      · subst e; rw [if_pos rfl]; exact hg
      · rw [if_neg e]
        rw [if_neg (fun e2 => e e2.symm)] at hlj
        exact up j _ _ _ hj (hx.fact j hj hlj) hb
  · rintro L b W ⟨x, h⟩ rfl
    obtain ⟨tm, df⟩ := b
    have h1 : df = a.defers := h.defers
    have h2 : tm = putAll d x n a.tmps := tmps_eq hd hds h.size h.old fun i hi => h.val i hi (doneArr_get hi)
    subst h1 h2
    exact hQ W x h.below fun i hi => h.fact i hi (doneArr_get hi)
end
end Go.Proofs.Ytdnjflpmbnjgeaa
