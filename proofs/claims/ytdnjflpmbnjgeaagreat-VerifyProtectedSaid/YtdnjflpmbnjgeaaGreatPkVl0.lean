/-
  waypointref56.Same and waypointlaw56.large (printed by gen_vl0.py).
  waypointlaw56.awake (printed by gen_vl1.py).
  From 'the arguments read as data' to what the walks ask: integers, lists of integers, bools, links; topologies.
  From 'the arguments read as data' to what the walks ask: lists of events.
-/
import Derived.Test.YtdnjflpmbnjgeaaGreatVk
import Derived.Test.YtdnjflpmbnjgeaaGreatPkBase
import Derived.Deep.Slices
import Derived.OpenShut
import Derived.ProofKit
import Derived.Lib.SmallJoins
import Derived.Test.YtdnjflpmbnjgeaaGreatPkEvs
set_option linter.unusedSimpArgs false
set_option linter.unusedVariables false
namespace Go.Proofs.YtdnjflpmbnjgeaaGreat
section
open Go.RowKit Go.Sort
theorem vi_eql (a b c d : Int) (w : World) : (binOp .eql 51 (.agg #[.int .i64 a, .int .i64 b]) (.agg #[.int .i64 c, .int .i64 d])).run Tryz.prog w = .ok (.bool ((a == c) && (b == d))) w := by
 rw [run_eql_struct, run_equalIn_struct w 9999 51 _ _ (by kernel_rfl) (by kernel_rfl)]
 simp only [Program.fieldsOf, Tryz.underlying51]
 rw [eqV_int (by decide) rfl rfl rfl (eqV_int (by decide) rfl rfl rfl (by simp [Op.eqFields] : (Op.eqFields 9999 _ _ []).run Tryz.prog w = .ok true w))]
 simp
theorem bl9 {T : TypeId} {b : Nat} {x0 x1 x2 x3 x4 x5 x6 x7 x8 : Value} {w : World} (h : Bl T b #[x0, x1, x2, x3, x4, x5, x6, x7, x8] w) : w.cell? ⟨b, 0, none⟩ = some x0 ∧ w.cell? ⟨b, 1, none⟩ = some x1 ∧ w.cell? ⟨b, 2, none⟩ = some x2 ∧ w.cell? ⟨b, 3, none⟩ = some x3 ∧ w.cell? ⟨b, 4, none⟩ = some x4 ∧ w.cell? ⟨b, 5, none⟩ = some x5 ∧ w.cell? ⟨b, 6, none⟩ = some x6 ∧ w.cell? ⟨b, 7, none⟩ = some x7 ∧ w.cell? ⟨b, 8, none⟩ = some x8 ∧ ∀ i, w.frozen? ⟨b, i, none⟩ = false :=
 ⟨h.cell 0 rfl, h.cell 1 rfl, h.cell 2 rfl, h.cell 3 rfl, h.cell 4 rfl, h.cell 5 rfl, h.cell 6 rfl, h.cell 7 rfl, h.cell 8 rfl, h.frz⟩
section
variable {w : World}
/-- A case that is too large. -/
def lgB (F : FaN) (ps : List PkN) (tr : List Ev) : Bool := (decide (F.t.n > 10) || (decide ((F.t.ls.length : Int) > 16) || (decide ((F.out.length : Int) > 20) || (decide ((ps.length : Int) > 30) || decide ((tr.length : Int) > 60))))) || ps.any (fun p => decide ((p.sn : Int) > 40))
set_option maxRecDepth 100000 in
set_option maxHeartbeats 8000000 in
theorem law56_large (F : FaN) (ps : List PkN) (tr : List Ev) (A1 A2 O B C : Option Addr) (c1 c2 co cp ct : Nat) (hP : Rd w B (ps.flatMap pkL)) :
    Calls Tryz.prog 5 #[.agg #[.int .i64 F.t.n, .slice A1 F.t.ov.length c1, .slice A2 F.t.ls.length c2, .int .i64 F.det, .int .i64 F.ga, .int .i64 F.ho, .slice O F.out.length co, .slice B ps.length cp, .slice C tr.length ct]] w fun e w' => e = .returned (.bool (lgB F ps tr)) ∧ Below w.heap.size w w' := by
 obtain ⟨R, hR⟩ : ∃ R, R = lgB F ps tr := ⟨_, rfl⟩
 rw [← hR]
 have HR := hU hR
 have HP := hU hP
 have HB := hU (cQ w (.cells #[.int .i64 F.t.n, .slice A1 F.t.ov.length c1, .slice A2 F.t.ls.length c2, .int .i64 F.det, .int .i64 F.ga, .int .i64 F.ho, .slice O F.out.length co, .slice B ps.length cp, .slice C tr.length ct] 32))
 have HX := hU (Bl.new w #[.int .i64 F.t.n, .slice A1 F.t.ov.length c1, .slice A2 F.t.ls.length c2, .int .i64 F.det, .int .i64 F.ga, .int .i64 F.ho, .slice O F.out.length co, .slice B ps.length cp, .slice C tr.length ct] 32)
 obtain ⟨f0, f1, f2, f3, f4, f5, f6, f7, f8, _⟩ := bl9 HX.out
 clear hR hP
 by_cases g0 : F.t.n > 10
 ·have d0 : decide (F.t.n > 10) = true := by simp [g0]
  have HRV : Hid (R = true) := hU (by rw [HR.out, lgB, d0]; rfl)
  clear g0
  go_enter Tryz.func5, Tryz.ntmps5
  go_wp2_with fail
  go_ret
  exact ⟨by rw [HRV.out]; rfl, HB.out⟩
 have d0 : decide (F.t.n > 10) = false := by simp [g0]
 by_cases g1 : (F.t.ls.length : Int) > 16
 ·have d1 : decide ((F.t.ls.length : Int) > 16) = true := by simp [g1]
  have HRV : Hid (R = true) := hU (by rw [HR.out, lgB, d0, d1]; rfl)
  clear g0 g1
  go_enter Tryz.func5, Tryz.ntmps5
  go_wp2_with fail
  go_ret
  exact ⟨by rw [HRV.out]; rfl, HB.out⟩
 have d1 : decide ((F.t.ls.length : Int) > 16) = false := by simp [g1]
 by_cases g2 : (F.out.length : Int) > 20
 ·have d2 : decide ((F.out.length : Int) > 20) = true := by simp [g2]
  have HRV : Hid (R = true) := hU (by rw [HR.out, lgB, d0, d1, d2]; rfl)
  clear g0 g1 g2
  go_enter Tryz.func5, Tryz.ntmps5
  go_wp2_with fail
  go_ret
  exact ⟨by rw [HRV.out]; rfl, HB.out⟩
 have d2 : decide ((F.out.length : Int) > 20) = false := by simp [g2]
 by_cases g3 : (ps.length : Int) > 30
 ·have d3 : decide ((ps.length : Int) > 30) = true := by simp [g3]
  have HRV : Hid (R = true) := hU (by rw [HR.out, lgB, d0, d1, d2, d3]; rfl)
  clear g0 g1 g2 g3
  go_enter Tryz.func5, Tryz.ntmps5
  go_wp2_with fail
  go_ret
  exact ⟨by rw [HRV.out]; rfl, HB.out⟩
 have d3 : decide ((ps.length : Int) > 30) = false := by simp [g3]
 by_cases g4 : (tr.length : Int) > 60
 ·have d4 : decide ((tr.length : Int) > 60) = true := by simp [g4]
  have HRV : Hid (R = true) := hU (by rw [HR.out, lgB, d0, d1, d2, d3, d4]; rfl)
  clear g0 g1 g2 g3 g4
  go_enter Tryz.func5, Tryz.ntmps5
  go_wp2_with fail
  go_ret
  exact ⟨by rw [HRV.out]; rfl, HB.out⟩
 have d4 : decide ((tr.length : Int) > 60) = false := by simp [g4]
 replace HR : Hid (R = ps.any (fun p => decide ((p.sn : Int) > 40))) := hU (by rw [HR.out, lgB, d0, d1, d2, d3, d4]; rfl)
 have hpl : ps.length ≤ 30 := by omega
 clear g0 g1 g2 g3 g4
 obtain ⟨X, hX⟩ : ∃ X, X = w.alloc (.cells #[.int .i64 F.t.n, .slice A1 F.t.ov.length c1, .slice A2 F.t.ls.length c2, .int .i64 F.det, .int .i64 F.ga, .int .i64 F.ho, .slice O F.out.length co, .slice B ps.length cp, .slice C tr.length ct] 32) := ⟨_, rfl⟩
 rw [← hX] at HB HX f0 f1 f2 f3 f4 f5 f6 f7 f8
 go_enter Tryz.func5, Tryz.ntmps5
 go_upto_region 1 with fail
 rw [← hX]
 clear hX
 go_wp2_with fail
 clear d0 d1 d2 d3 d4
 go_loopw [3] (fun i wr => ∃ k : Nat, k ≤ ps.length ∧ i = .int .i64 k ∧ Hid (Below w.heap.size w wr) ∧ Hid (Bl 32 w.heap.size #[.int .i64 F.t.n, .slice A1 F.t.ov.length c1, .slice A2 F.t.ls.length c2, .int .i64 F.det, .int .i64 F.ga, .int .i64 F.ho, .slice O F.out.length co, .slice B ps.length cp, .slice C tr.length ct] wr) ∧ Hid ((ps.take k).any (fun p => decide ((p.sn : Int) > 40)) = false)) (fun i _ => ps.length - (intOf i).toNat)
 case atStart => exact ⟨0, Nat.zero_le _, rfl, HB, HX, hU rfl⟩
 case round =>
  clear HB HX f0 f1 f2 f3 f4 f5 f6 f7 f8
  obtain ⟨k, hk, rfl, HB, HX, HK⟩ := hrel
  obtain ⟨f0, f1, f2, f3, f4, f5, f6, f7, f8, _⟩ := bl9 HX.out
  by_cases hlt : k < ps.length
  ·have hlt' : (k : Int) < (ps.length : Int) := by omega
   obtain ⟨p, hpp⟩ : ∃ p, ps[k]? = some p := ⟨_, List.getElem?_eq_getElem hlt⟩
   obtain ⟨bz, oz, hAz, hcz⟩ := row_at (s := 6) (fun _ => rfl) (by omega) (HP.out.below HB.out) hpp
   have z4 := hcz 4 (.slice p.st p.sn p.sc) rfl
   have HTK : Hid (ps.take (k + 1) = ps.take k ++ [p]) := hU (by rw [List.take_add_one, hpp]; rfl)
   have HM : Hid (p ∈ ps) := hU (List.mem_of_getElem? hpp)
   clear hcz hpp
   subst hAz
   by_cases g : (p.sn : Int) > 40
   ·have d : decide ((p.sn : Int) > 40) = true := by simp [g]
    have HRV : Hid (R = true) := hU (by rw [HR.out, List.any_eq_true]; exact ⟨p, HM.out, d⟩)
    clear g
    go_wp2_with fail
    go_ret
    exact ⟨by rw [HRV.out]; rfl, HB.out⟩
   ·have d : decide ((p.sn : Int) > 40) = false := by simp [g]
    have HKN : Hid ((ps.take (k + 1)).any (fun p => decide ((p.sn : Int) > 40)) = false) := hU (by rw [HTK.out, List.any_append, HK.out]; simp [d])
    clear g
    go_wp2_with fail
    go_roundw
    case rel => exact ⟨k + 1, by omega, by go_num, HB, HX, HKN⟩
    case measure => simp [intOf]; omega
  ·obtain rfl : k = ps.length := by omega
   have HRV : Hid (R = false) := hU (by have h := HK.out; rw [List.take_length] at h; rw [HR.out, h])
   go_wp2_with fail
   go_ret
   exact ⟨by rw [HRV.out]; rfl, HB.out⟩
end
def awF : FaN := ⟨⟨2, [], [⟨0, 1, 1, 1, 1, 2, 0⟩]⟩, 0, 1, 1, []⟩
def awP : List PkN := [⟨7, 0, 1, 0, none, 0, 0, 0⟩]
def awT : List Ev := [⟨5, 1, 0, 0, 7, 0⟩, ⟨5, 2, 0, 0, 7, 0⟩, ⟨6, 3, 1, 0, 7, 0⟩]
theorem aw_ok : vyOk awF awP awT = true := by decide +kernel
theorem aw_prot : protV awF awT awP = fun _ => false := by
 funext id
 cases h : protV awF awT awP id with
 | false => rfl
 | true =>
  obtain ⟨o, ho, _⟩ := protV_ok h
  cases ho
theorem aw_run : runV awF awP (protV awF awT awP) (uQ awF) (CkS.new awF.t) 0 awT = [(1, 5), (2, 2)] := by
 rw [aw_prot]
 decide +kernel
theorem aw_ret {w w' : World} {e : Ending} (h : RetVy awF awP awT w e w') : Below w.heap.size w w' ∧ ∃ bz oz cp, e = .returned (.tuple #[.slice (some ⟨bz, oz, none⟩) 2 cp, .int .i64 0]) ∧ w'.cell? ⟨bz, oz, none⟩ = some (.int .i64 1) ∧ w'.cell? ⟨bz, oz + 1, none⟩ = some (.int .i64 5) ∧ w'.cell? ⟨bz, oz + 2, none⟩ = some (.int .i64 2) ∧ w'.cell? ⟨bz, oz + 2 + 1, none⟩ = some (.int .i64 2) := by
 obtain ⟨hb, h⟩ := h
 rcases h with ⟨h, _⟩ | ⟨_, A, cp, l, hl, he, hr⟩
 ·rw [aw_ok] at h; cases h
 ·rw [aw_run] at hl
  subst hl
  rcases hr with hr | ⟨bz, oz, rfl, hc⟩
  ·cases hr
  ·exact ⟨hb, bz, oz, cp, he, hc 0 _ rfl, hc 1 _ rfl, hc 2 _ rfl, hc 3 _ rfl⟩
theorem rd_bl {T : TypeId} {b : Nat} {cs : List Value} {W : World} (h : Bl T b cs.toArray W) : Rd W (some ⟨b, 0, none⟩) cs :=
 .inr ⟨b, 0, rfl, fun j u hu => by rw [Nat.zero_add]; exact h.cell j (by rw [List.getElem?_toArray]; exact hu)⟩
theorem aw_tat {T : TypeId} {b : Nat} {W : World} (h : Bl T b #[.int .i64 0, .int .i64 1, .int .i64 1, .int .i64 1, .int .i64 1, .int .i64 2, .int .i64 0] W) : TAt W none (some ⟨b, 0, none⟩) awF.t := by
 refine ⟨.inl rfl, .inr ⟨b, 0, rfl, fun k l hk => ?_⟩⟩
 match k, hk with
 | 0, hk =>
  injection hk with hk
  subst hk
  exact ⟨h.cell 0 rfl, h.cell 1 rfl, h.cell 2 rfl, h.cell 3 rfl, h.cell 4 rfl, h.cell 5 rfl, h.cell 6 rfl⟩
 | k + 1, hk => cases hk
theorem aw_rde {T : TypeId} {b : Nat} {W : World} (h : Bl T b #[.int .i64 5, .int .i64 1, .int .i64 0, .int .i64 0, .int .i64 7, .int .i64 0, .int .i64 5, .int .i64 2, .int .i64 0, .int .i64 0, .int .i64 7, .int .i64 0, .int .i64 6, .int .i64 3, .int .i64 1, .int .i64 0, .int .i64 7, .int .i64 0] W) : RdE W (some ⟨b, 0, none⟩) awT := by
 refine .inr ⟨b, 0, rfl, fun k l hk => ?_⟩
 match k, hk with
 | 0, hk =>
  injection hk with hk
  subst hk
  exact ⟨h.cell 0 rfl, h.cell 1 rfl, h.cell 2 rfl, h.cell 3 rfl, h.cell 4 rfl, h.cell 5 rfl⟩
 | 1, hk =>
  injection hk with hk
  subst hk
  exact ⟨h.cell 6 rfl, h.cell 7 rfl, h.cell 8 rfl, h.cell 9 rfl, h.cell 10 rfl, h.cell 11 rfl⟩
 | 2, hk =>
  injection hk with hk
  subst hk
  exact ⟨h.cell 12 rfl, h.cell 13 rfl, h.cell 14 rfl, h.cell 15 rfl, h.cell 16 rfl, h.cell 17 rfl⟩
 | k + 3, hk => cases hk
theorem below_three (w : World) (o1 o2 o3 : Obj) : Below w.heap.size w (((w.alloc o1).alloc o2).alloc o3) := bQ (aZ w o1 o2) (cQ _ _)
section
variable {w : World}
set_option maxRecDepth 100000 in
set_option maxHeartbeats 8000000 in
theorem law56_awake : Calls Tryz.prog 4 #[] w fun e w' => e = .returned (.bool true) ∧ Below w.heap.size w w' := by
 go_enter Tryz.func4, Tryz.ntmps4
 go_upto_region 3 with fail
 obtain ⟨lb, hlb⟩ : ∃ lb, lb = w.heap.size := ⟨_, rfl⟩
 obtain ⟨tb, htb⟩ : ∃ tb, tb = w.heap.size + 1 := ⟨_, rfl⟩
 obtain ⟨eb, heb⟩ : ∃ eb, eb = w.heap.size + 1 + 1 := ⟨_, rfl⟩
 refine kQ (fun Y => Below w.heap.size w Y ∧ Bl 41 lb #[.int .i64 0, .int .i64 1, .int .i64 1, .int .i64 1, .int .i64 1, .int .i64 2, .int .i64 0] Y ∧ Bl 25 tb #[.int .i64 2, .slice none 0 0, .slice (some ⟨lb, 0, none⟩) 1 1] Y ∧ Bl 43 eb #[.int .i64 5, .int .i64 1, .int .i64 0, .int .i64 0, .int .i64 7, .int .i64 0, .int .i64 5, .int .i64 2, .int .i64 0, .int .i64 0, .int .i64 7, .int .i64 0, .int .i64 6, .int .i64 3, .int .i64 1, .int .i64 0, .int .i64 7, .int .i64 0] Y) ⟨below_three _ _ _ _, ?_, ?_, ?_⟩ ?_
 ·rw [hlb]; exact ((Bl.new w _ _).up (cQ _ _)).up (cQ _ _)
 ·rw [htb, hlb]
  have h := (Bl.new (w.alloc (.cells #[.int .i64 0, .int .i64 1, .int .i64 1, .int .i64 1, .int .i64 1, .int .i64 2, .int .i64 0] 41)) #[.int .i64 2, .slice none 0 0, .slice (some ⟨w.heap.size, 0, none⟩) 1 1] 25)
  rw [World.size_alloc] at h
  exact h.up (cQ _ _)
 ·rw [heb]
  have h := (Bl.new ((w.alloc (.cells #[.int .i64 0, .int .i64 1, .int .i64 1, .int .i64 1, .int .i64 1, .int .i64 2, .int .i64 0] 41)).alloc (.cells #[.int .i64 2, .slice none 0 0, .slice (some ⟨w.heap.size, 0, none⟩) 1 1] 25)) #[.int .i64 5, .int .i64 1, .int .i64 0, .int .i64 0, .int .i64 7, .int .i64 0, .int .i64 5, .int .i64 2, .int .i64 0, .int .i64 0, .int .i64 7, .int .i64 0, .int .i64 6, .int .i64 3, .int .i64 1, .int .i64 0, .int .i64 7, .int .i64 0] 43)
  rw [World.size_alloc, World.size_alloc] at h
  exact h
 ·rw [← heb, ← htb, ← hlb]
  rintro Y ⟨h1, h2, h3, h4⟩
  rw [hlb] at h1
  clear hlb htb heb
  have HB := hU h1
  have HL := hU h2
  have HT := hU h3
  have HE := hU h4
  clear h1 h2 h3 h4
  obtain ⟨t0, t1, t2, _⟩ := HT.out.c3
  have hZ := cQ Y (.cells #[.int .i64 7, .int .i64 0, .int .i64 1, .int .i64 0, .slice none 0 0, .int .i64 0] 49)
  have HCK := hU (vy_Check (w := Y.alloc (.cells #[.int .i64 7, .int .i64 0, .int .i64 1, .int .i64 0, .slice none 0 0, .int .i64 0] 49)) awF awP awT none (some ⟨lb, 0, none⟩) none (some ⟨Y.heap.size, 0, none⟩) (some ⟨eb, 0, none⟩) 0 1 0 1 3 (aw_tat (HL.out.up hZ)) (.inl rfl) (rd_bl (cs := [.int .i64 7, .int .i64 0, .int .i64 1, .int .i64 0, .slice none 0 0, .int .i64 0]) (Bl.new Y _ _)) (aw_rde (HE.out.up hZ)) (by decide) (by decide) (by decide) (by decide) (by intro p hp; simp only [awP, List.mem_singleton] at hp; subst hp; exact ⟨by unfold inJ; decide, by decide⟩) (by decide))
  have HBZ := hU (bQ HB.out hZ)
  simp only [awF, awP, awT, List.length_nil, List.length_cons, Nat.zero_add] at HCK
  clear hZ
  go_wp2_with (go_at_call 8; (refine HCK.out.mono ?_); intro e w5 h5; obtain ⟨hb5, bz, oz, cp, rfl, z0, z1, z2, z3⟩ := aw_ret h5; have HB5 := hU (bQ HBZ.out hb5); clear h5 hb5; have q1 : ∀ W, _ := (fun W => vi_eql 1 5 1 5 W); have q2 : ∀ W, _ := (fun W => vi_eql 2 2 2 2 W))
  go_ret
  exact ⟨rfl, HB5.out⟩
end
end
section
open Go.ChangeShapes Go.WideShapes Go.ChangeAt Go.RowKit Go.Deep Go.Joins Go.OpenShut
section
variable {H : Type} {enc : TypeId × Value → H} {P : Program} {w : World} {base : Nat} {spare : Nat → Bool} {held : Bool}
/-- A slice opened to a list: 'dec x' are the cells of an element x. -/
theorem open_list {α : Type} {t e : TypeId} {size fuel : Nat} {cs : List Value} {x : DataW H × List MemPlace} (dec : α → List Value) (Good : α → Prop) (ht : P.underlying t = some (.slice e)) (hC : P.cellsOf e = size) (hpos : 0 < size)
    (hdec : ∀ n cs y, DataW.trod enc P w base spare held n e cs = some y → ∃ z : α, cs = dec z ∧ Good z)
    (h : DataW.trod enc P w base spare held fuel t cs = some x) :
    ∃ (A : Option Addr) (cap : Nat) (zs : List α), cs = [.slice A zs.length cap] ∧ zs.length ≤ maxLen ∧ (∀ z ∈ zs, Good z) ∧ zs.length ≤ cap ∧ cap ≤ maxLen ∧
     (zs = [] ∨ ∃ b o, A = some ⟨b, o, none⟩ ∧ ∀ k z, zs[k]? = some z → ∀ j v, (dec z)[j]? = some v → w.cell? ⟨b, o + k * size + j, none⟩ = some v) := by
 rcases open_slice ht h with ⟨rfl, _⟩ | ⟨a, len, cap, m, n, D, Pl, rfl, hb, hl, hm, hmm, hx, hi⟩
 ·exact ⟨none, 0, [], rfl, Nat.zero_le _, by simp, Nat.le_refl _, Nat.zero_le _, .inl rfl⟩
 ·have hle : len ≤ m := by rw [hmm]; split <;> omega
  have hz : ∀ i, i < len → ∃ z : α, w.cells? base (a.add (i * size)) size = some (dec z) ∧ Good z := by
   intro i hlt
   obtain ⟨cs', hc, htr⟩ := hi i (by omega)
   obtain ⟨z, rfl, hg⟩ := hdec _ _ _ htr
   rw [hC] at hc
   exact ⟨z, hc, hg⟩
  obtain ⟨zs, hzl, hzs⟩ : ∃ zs : List α, zs.length = len ∧ ∀ i z, zs[i]? = some z → w.cells? base (a.add (i * size)) size = some (dec z) ∧ Good z := by
   clear hi hx hle hmm hl h
   induction len with
   | zero => exact ⟨[], rfl, by simp⟩
   | succ l ih =>
    obtain ⟨zs, h1, h2⟩ := ih (fun i hi => hz i (by omega))
    obtain ⟨z, h3⟩ := hz l (by omega)
    refine ⟨zs ++ [z], by simp [h1], fun i y hy => ?_⟩
    by_cases hil : i < zs.length
    ·rw [List.getElem?_append_left hil] at hy
     exact h2 i y hy
    ·rw [List.getElem?_append_right (by omega)] at hy
     have : i - zs.length = 0 := by
      rcases Nat.eq_zero_or_pos (i - zs.length) with h | h
      ·exact h
      ·rw [List.getElem?_eq_none (by simp; omega)] at hy; cases hy
     rw [this] at hy
     simp only [List.getElem?_cons_zero, Option.some.injEq] at hy
     subst hy
     obtain rfl : i = l := by omega
     exact h3
  subst hzl
  refine ⟨some a, cap, zs, rfl, by omega, fun z hz' => ?_, hl, hm, ?_⟩
  ·obtain ⟨i, hlt, rfl⟩ := List.getElem_of_mem hz'
   exact (hzs i _ (List.getElem?_eq_getElem hlt)).2
  ·cases zs with
   | nil => exact .inl rfl
   | cons z0 zs' =>
    right
    have h0 := (hzs 0 z0 rfl).1
    obtain ⟨_, hl0, hc0⟩ := World.cells?_some h0
    have hc00 := hc0 0 hpos
    rw [List.getElem?_eq_getElem (by omega)] at hc00
    obtain ⟨b, o, sp⟩ := a
    have hsp : sp = none := by simpa [Addr.add] using World.cell?_spot hc00
    subst hsp
    refine ⟨b, o, rfl, fun k z hk j v hj => ?_⟩
    obtain ⟨_, hl1, hc1⟩ := World.cells?_some (hzs k z hk).1
    have hjl : j < size := by
     have := (List.getElem?_eq_some_iff.1 hj).1
     omega
    have := hc1 j hjl
    rw [hj] at this
    rw [← this]
    congr 1
    unfold Addr.add
    by_cases e1 : k * size = 0 <;> by_cases e2 : j = 0 <;> simp [e1, e2, Nat.add_assoc]
theorem wf64 {n : Int} (h : (Lit.int .i64 n).wf = true) : -9223372036854775808 ≤ n ∧ n ≤ 9223372036854775807 := by
 exact bounds_i64 h
theorem open_i64 {r : Reach} {b0 : Nat} {t : TypeId} {v : Value} {d : DataW H} {p : List MemPlace} (ht : P.underlying t = some (.int .i64)) (hv : Value.okWide P w r b0 t v) (h : DataW.Trod enc P w base spare held t v d p) :
    ∃ n, v = .int .i64 n ∧ -9223372036854775808 ≤ n ∧ n ≤ 9223372036854775807 := by
 obtain ⟨n, rfl, _, _, wn⟩ := open_int ht hv h
 exact ⟨n, rfl, wf64 wn⟩
theorem open_boolsF {t e : TypeId} {fuel : Nat} {v : Value} {x : DataW H × List MemPlace} (ht : P.underlying t = some (.slice e)) (he : P.underlying e = some .bool) (hC : P.cellsOf e = 1) (hf : DataW.trod enc P w base spare held fuel t [v] = some x) :
    ∃ (A : Option Addr) (cap : Nat) (xs : List Bool), v = .slice A xs.length cap ∧ xs.length ≤ cap ∧ cap ≤ maxLen ∧ Rd w A (xs.map Value.bool) := by
 obtain ⟨A', cap, zs, hcs, _, _, hlc, hcm, hc⟩ := open_list (α := Bool) (fun z => [.bool z]) (fun _ => True) ht hC (by omega)
  (fun n cs y hy => by obtain ⟨z, rfl, _⟩ := DataW.trod_bool he hy; exact ⟨z, rfl, trivial⟩) hf
 simp only [List.cons.injEq, and_true] at hcs
 refine ⟨A', cap, zs, hcs, hlc, hcm, ?_⟩
 rcases hc with rfl | ⟨b, o, rfl, hc⟩
 ·exact .inl rfl
 ·refine .inr ⟨b, o, rfl, fun j u hu => ?_⟩
  rw [List.getElem?_map] at hu
  obtain ⟨z, hz, rfl⟩ := Option.map_eq_some_iff.1 hu
  simpa using hc j z hz 0 _ rfl
end
def lnkCells (l : Lnk) : List Value := [.int .i64 l.a, .int .i64 l.b, .int .i64 l.c0, .int .i64 l.c1, .int .i64 l.cap, .int .i64 l.dl, .int .i64 l.g]
def I64 (n : Int) : Prop := -9223372036854775808 ≤ n ∧ n ≤ 9223372036854775807
structure LnkIn (l : Lnk) : Prop where
 a : I64 l.a
 b : I64 l.b
 c0 : I64 l.c0
 c1 : I64 l.c1
 cap : I64 l.cap
 dl : I64 l.dl
 g : I64 l.g
section
variable {H : Type} {enc : TypeId × Value → H} {w : World} {base : Nat} {spare : Nat → Bool} {held : Bool}
theorem cells1 : Tryz.prog.cellsOf 3 = 1 := by kernel_rfl
theorem cells2 : Tryz.prog.cellsOf 39 = 2 := by kernel_rfl
theorem cells7 : Tryz.prog.cellsOf 41 = 7 := by kernel_rfl
set_option maxRecDepth 100000 in
theorem trod_link {n : Nat} {cs : List Value} {y : DataW H × List MemPlace} (h : DataW.trod enc Tryz.prog w base spare held n 41 cs = some y) : ∃ l : Lnk, cs = lnkCells l ∧ LnkIn l := by
 obtain ⟨ys, m, _, _, hl, hyl, hf⟩ := DataW.trod_struct Tryz.underlying41 h
 rw [cells7] at hl
 match cs, hl with
 | [v0, v1, v2, v3, v4, v5, v6], _ =>
  have f0 := hf 0 _ rfl
  simp [cells1] at f0
  have f1 := hf 1 _ rfl
  simp [cells1] at f1
  have f2 := hf 2 _ rfl
  simp [cells2] at f2
  have f3 := hf 3 _ rfl
  simp [cells1] at f3
  have f4 := hf 4 _ rfl
  simp [cells1] at f4
  have f5 := hf 5 _ rfl
  simp [cells1] at f5
  match ys, hyl with
  | [y0, y1, y2, y3, y4, y5], _ =>
   obtain ⟨a, e0, _, wa⟩ := DataW.trod_int Tryz.underlying3 f0
   obtain ⟨b, e1, _, wb⟩ := DataW.trod_int Tryz.underlying3 f1
   obtain ⟨zs, m2, _, _, _, hzl, hg⟩ := DataW.trod_array Tryz.underlying39 f2
   have g0 := hg 0 (by omega)
   have g1 := hg 1 (by omega)
   simp [cells1] at g0 g1
   match zs, hzl with
   | [z0, z1], _ =>
    obtain ⟨c0, e2, _, wc0⟩ := DataW.trod_int Tryz.underlying3 g0
    obtain ⟨c1, e3, _, wc1⟩ := DataW.trod_int Tryz.underlying3 g1
    obtain ⟨c, e4, _, wc⟩ := DataW.trod_int Tryz.underlying3 f3
    obtain ⟨d, e5, _, wd⟩ := DataW.trod_int Tryz.underlying3 f4
    obtain ⟨g, e6, _, wg⟩ := DataW.trod_int Tryz.underlying3 f5
    simp only [List.cons.injEq, and_true] at e0 e1 e2 e3 e4 e5 e6
    subst e0 e1 e2 e3 e4 e5 e6
    exact ⟨⟨a, b, c0, c1, c, d, g⟩, rfl, ⟨wf64 wa, wf64 wb, wf64 wc0, wf64 wc1, wf64 wc, wf64 wd, wf64 wg⟩⟩
set_option maxRecDepth 100000 in
theorem open_linksF {fuel : Nat} {v : Value} {x : DataW H × List MemPlace} (hf : DataW.trod enc Tryz.prog w base spare held fuel 23 [v] = some x) :
    ∃ (A : Option Addr) (cap : Nat) (ls : List Lnk), v = .slice A ls.length cap ∧ ls.length ≤ cap ∧ cap ≤ maxLen ∧ (∀ l ∈ ls, LnkIn l) ∧ RdL w A ls := by
 obtain ⟨A', cap, zs, hcs, _, hg, hlc, hcm, hc⟩ := open_list (α := Lnk) lnkCells LnkIn Tryz.underlying23 cells7 (by omega) (fun n cs y hy => trod_link hy) hf
 simp only [List.cons.injEq, and_true] at hcs
 refine ⟨A', cap, zs, hcs, hlc, hcm, hg, ?_⟩
 rcases hc with rfl | ⟨b, o, rfl, hc⟩
 ·exact .inl rfl
 ·exact .inr ⟨b, o, rfl, fun k l hl => ⟨hc k l hl 0 _ rfl, hc k l hl 1 _ rfl, hc k l hl 2 _ rfl, hc k l hl 3 _ rfl, hc k l hl 4 _ rfl, hc k l hl 5 _ rfl, hc k l hl 6 _ rfl⟩⟩
theorem cells3 : Tryz.prog.cellsOf 25 = 3 := by kernel_rfl
theorem cellsB : Tryz.prog.cellsOf 4 = 1 := by kernel_rfl
end
section
variable {H : Type} {enc : TypeId × Value → H} {w : World} {base : Nat} {spare : Nat → Bool} {held : Bool}
def EvIn (e : Ev) : Prop := I64 e.t ∧ I64 e.k ∧ I64 e.n ∧ I64 e.a ∧ I64 e.p ∧ I64 e.r
theorem cellsEv : Tryz.prog.cellsOf 43 = 6 := by kernel_rfl
set_option maxRecDepth 100000 in
theorem trod_ev {n : Nat} {cs : List Value} {y : DataW H × List MemPlace} (h : DataW.trod enc Tryz.prog w base spare held n 43 cs = some y) : ∃ e : Ev, cs = evV e ∧ EvIn e := by
 obtain ⟨ys, m, _, _, hl, hyl, hf⟩ := DataW.trod_struct Tryz.underlying43 h
 rw [cellsEv] at hl
 match cs, hl with
 | [v0, v1, v2, v3, v4, v5], _ =>
  have f0 := hf 0 _ rfl
  simp [cells1] at f0
  have f1 := hf 1 _ rfl
  simp [cells1] at f1
  have f2 := hf 2 _ rfl
  simp [cells1] at f2
  have f3 := hf 3 _ rfl
  simp [cells1] at f3
  have f4 := hf 4 _ rfl
  simp [cells1] at f4
  have f5 := hf 5 _ rfl
  simp [cells1] at f5
  match ys, hyl with
  | [y0, y1, y2, y3, y4, y5], _ =>
   obtain ⟨a0, e0, _, w0⟩ := DataW.trod_int Tryz.underlying3 f0
   obtain ⟨a1, e1, _, w1⟩ := DataW.trod_int Tryz.underlying3 f1
   obtain ⟨a2, e2, _, w2⟩ := DataW.trod_int Tryz.underlying3 f2
   obtain ⟨a3, e3, _, w3⟩ := DataW.trod_int Tryz.underlying3 f3
   obtain ⟨a4, e4, _, w4⟩ := DataW.trod_int Tryz.underlying3 f4
   obtain ⟨a5, e5, _, w5⟩ := DataW.trod_int Tryz.underlying3 f5
   simp only [List.cons.injEq, and_true] at e0 e1 e2 e3 e4 e5
   subst e0 e1 e2 e3 e4 e5
   exact ⟨⟨a0, a1, a2, a3, a4, a5⟩, rfl, wf64 w0, wf64 w1, wf64 w2, wf64 w3, wf64 w4, wf64 w5⟩
end
end
end Go.Proofs.YtdnjflpmbnjgeaaGreat
