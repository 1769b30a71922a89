/-
  verify.Valid at the example of the document of layer 57: it returns true.
-/
import Derived.Test.YtjcnjnonhncelaaDoorExplV
namespace Go.Proofs.YtjcnjnonhncelaaDoor
open Go.RowKit Go.Sort
set_option linter.unusedSimpArgs false
set_option linter.unusedVariables false

/-- The example's packet in memory. -/
structure PkAt (w : World) (b : Nat) : Prop where
  p0 : w.cell? ⟨b, 0, none⟩ = some (.int .i64 7)
  p1 : w.cell? ⟨b, 1, none⟩ = some (.int .i64 0)
  p2 : w.cell? ⟨b, 2, none⟩ = some (.int .i64 1)
  p3 : w.cell? ⟨b, 3, none⟩ = some (.int .i64 0)
  p4 : w.cell? ⟨b, 4, none⟩ = some (.slice none 0 0)
  p5 : w.cell? ⟨b, 5, none⟩ = some (.int .i64 0)
theorem PkAt.up {w w' : World} {b : Nat} (h : PkAt w b) (hb : Below w.heap.size w w') : PkAt w' b := ⟨cell_up hb h.p0, cell_up hb h.p1, cell_up hb h.p2, cell_up hb h.p3, cell_up hb h.p4, cell_up hb h.p5⟩

/-- Where Valid stands: the facts' box, the topology's box. -/
structure V57 (w : World) (A2 : Option Addr) (c2 : Nat) (wr : World) : Prop where
  hb : Below w.heap.size w wr
  tb : wr.heap[w.heap.size + 1]? = some (.cells #[.int .i64 2, .slice none 0 0, .slice A2 1 c2] 77 (0, 0))
theorem V57.up {w wr w' : World} {A2 : Option Addr} {c2 : Nat} (h : V57 w A2 c2 wr) (hb : Below wr.heap.size wr w') : V57 w A2 c2 w' := ⟨below_next h.hb hb, (hb.block _ (lt_of_heap h.tb)).trans h.tb⟩
theorem V57.put {w wr : World} {A2 : Option Addr} {c2 r : Nat} {o : Obj} (h : V57 w A2 c2 wr) (hr : w.heap.size + 1 < r) : V57 w A2 c2 (putMap wr r o) := ⟨putMap_below h.hb (by omega), (putMap_block (by omega)).trans h.tb⟩
theorem V57.cells {w wr : World} {A2 : Option Addr} {c2 : Nat} (h : V57 w A2 c2 wr) : wr.cell? ⟨w.heap.size + 1, 0, none⟩ = some (.int .i64 2) ∧ wr.cell? ⟨w.heap.size + 1, 1, none⟩ = some (.slice none 0 0) ∧ wr.cell? ⟨w.heap.size + 1, 2, none⟩ = some (.slice A2 1 c2) :=
  ⟨by rw [Lib.cell_of_heap h.tb]; rfl, by rw [Lib.cell_of_heap h.tb]; rfl, by rw [Lib.cell_of_heap h.tb]; rfl⟩

set_option maxRecDepth 100000 in
set_option maxHeartbeats 4000000 in
theorem verify_Valid57 (A2 A : Option Addr) (c2 pb cp cl : Nat) (w : World) (hT : TAt w none A2 ex57T) (hP : PkAt w pb) (hL : RdE w A ex57L) :
    Calls Tryd.prog 79 #[.agg #[.int .i64 2, .slice none 0 0, .slice A2 1 c2, .int .i64 0, .int .i64 1, .int .i64 1, .slice none 0 0], .slice (some ⟨pb, 0, none⟩) 1 cp, .slice A 4 cl] w fun e w' => e = .returned (.bool true) ∧ Below w.heap.size w w' := by
  have HCT : Hid (∀ W, TAt W none A2 ex57T → Calls Tryd.prog 100 #[.agg #[.int .i64 2, .slice none 0 0, .slice A2 1 c2]] W fun e w' => e = .returned (.bool true) ∧ Below W.heap.size W w') := Lib.hid fun W h => by
    have := topology_Valid ex57T none A2 0 c2 W h.ls
    rwa [show valid ex57T = true by decide] at this
  have HW0 : Hid (∀ W, Calls Tryd.prog 101 #[.int .i64 0, .int .i64 0, .int .i64 65536] W fun e w' => e = .returned (.bool true) ∧ W = w') := Lib.hid fun W => verify_within 0 0 65536 W
  have HW1 : Hid (∀ W, Calls Tryd.prog 101 #[.int .i64 1, .int .i64 1, .int .i64 65536] W fun e w' => e = .returned (.bool true) ∧ W = w') := Lib.hid fun W => verify_within 1 1 65536 W
  have HW7 : Hid (∀ W, Calls Tryd.prog 101 #[.int .i64 7, .int .i64 0, .int .i64 1073741824] W fun e w' => e = .returned (.bool true) ∧ W = w') := Lib.hid fun W => verify_within 7 0 1073741824 W
  have HN0 : Hid (∀ W, Calls Tryd.prog 103 #[.agg #[.int .i64 2, .slice none 0 0, .slice A2 1 c2], .int .i64 0] W fun e w' => e = .returned (.bool true) ∧ Below W.heap.size W w') := Lib.hid fun W => graph_Node 2 0 _ _ W
  have HN1 : Hid (∀ W, Calls Tryd.prog 103 #[.agg #[.int .i64 2, .slice none 0 0, .slice A2 1 c2], .int .i64 1] W fun e w' => e = .returned (.bool true) ∧ Below W.heap.size W w') := Lib.hid fun W => graph_Node 2 1 _ _ W
  have HTV : Hid (∀ W, RdE W A ex57L → Calls Tryd.prog 11 #[.slice A 4 cl] W fun e w' => e = .returned (.bool true) ∧ Below W.heap.size W w') := Lib.hid fun W h => by
    have := trace_Valid A cl ex57L W h (by decide)
    rwa [show trOk ex57L = true by decide] at this
  have HNM : Hid (∀ W (x : Ev), TAt W none A2 ex57T → x ∈ ex57L → Calls Tryd.prog 104 #[.agg #[.int .i64 2, .slice none 0 0, .slice A2 1 c2], .agg #[.int .i64 x.t, .int .i64 x.k, .int .i64 x.n, .int .i64 x.a, .int .i64 x.p, .int .i64 x.r]] W fun e w' => e = .returned (.bool true) ∧ Below W.heap.size W w') := Lib.hid fun W x h hx => verify_named57 A2 c2 W h x hx
  have HT := Lib.hid hT
  have HP := Lib.hid hP
  have HL := Lib.hid hL
  clear hT hP hL
  have HF0 := Lib.hid (below_box w (.cells #[.int .i64 2, .slice none 0 0, .slice A2 1 c2, .int .i64 0, .int .i64 1, .int .i64 1, .slice none 0 0] 82))
  have HFh : Hid ((w.alloc (.cells #[.int .i64 2, .slice none 0 0, .slice A2 1 c2, .int .i64 0, .int .i64 1, .int .i64 1, .slice none 0 0] 82)).heap[w.heap.size]? = some (.cells #[.int .i64 2, .slice none 0 0, .slice A2 1 c2, .int .i64 0, .int .i64 1, .int .i64 1, .slice none 0 0] 82 (0, 0))) := Lib.hid (heap_alloc_new _ _)
  have hsz : (w.alloc (.cells #[.int .i64 2, .slice none 0 0, .slice A2 1 c2, .int .i64 0, .int .i64 1, .int .i64 1, .slice none 0 0] 82)).heap.size = w.heap.size + 1 := by simp
  have hmm := @run_makeMap Tryd.prog
  go_enter Tryd.func79, Tryd.ntmps79
  go_upto_region 1 with fail
  generalize w.alloc (.cells #[.int .i64 2, .slice none 0 0, .slice A2 1 c2, .int .i64 0, .int .i64 1, .int .i64 1, .slice none 0 0] 82) = W0 at *
  have HSZ := Lib.hid hsz
  clear hsz
  have f0 : W0.cell? ⟨w.heap.size, 0, none⟩ = some (.int .i64 2) := by rw [Lib.cell_of_heap HFh.out]; rfl
  have f1 : W0.cell? ⟨w.heap.size, 1, none⟩ = some (.slice none 0 0) := by rw [Lib.cell_of_heap HFh.out]; rfl
  have f2 : W0.cell? ⟨w.heap.size, 2, none⟩ = some (.slice A2 1 c2) := by rw [Lib.cell_of_heap HFh.out]; rfl
  go_upto_region 2 with fail
  rw [HSZ.out]
  have HV : Hid (V57 w A2 c2 (W0.alloc (.cells #[.int .i64 2, .slice none 0 0, .slice A2 1 c2] 77))) := Lib.hid ⟨below_next HF0.out (below_box _ _), by have := heap_alloc_new W0 (.cells #[.int .i64 2, .slice none 0 0, .slice A2 1 c2] 77); rwa [HSZ.out] at this⟩
  have HFh2 : Hid ((W0.alloc (.cells #[.int .i64 2, .slice none 0 0, .slice A2 1 c2] 77)).heap[w.heap.size]? = some (.cells #[.int .i64 2, .slice none 0 0, .slice A2 1 c2, .int .i64 0, .int .i64 1, .int .i64 1, .slice none 0 0] 82 (0, 0))) := Lib.hid (((below_box W0 _).block _ (lt_of_heap HFh.out)).trans HFh.out)
  generalize W0.alloc (.cells #[.int .i64 2, .slice none 0 0, .slice A2 1 c2] 77) = W1 at *
  clear f0 f1 f2 HFh HF0 HSZ
  have f3 : W1.cell? ⟨w.heap.size, 3, none⟩ = some (.int .i64 0) := by rw [Lib.cell_of_heap HFh2.out]; rfl
  have f4 : W1.cell? ⟨w.heap.size, 4, none⟩ = some (.int .i64 1) := by rw [Lib.cell_of_heap HFh2.out]; rfl
  have f5 : W1.cell? ⟨w.heap.size, 5, none⟩ = some (.int .i64 1) := by rw [Lib.cell_of_heap HFh2.out]; rfl
  have f6 : W1.cell? ⟨w.heap.size, 6, none⟩ = some (.slice none 0 0) := by rw [Lib.cell_of_heap HFh2.out]; rfl
  obtain ⟨t0, t1, t2⟩ := HV.out.cells
  clear HFh2
  go_upto_region 5 with (first | (go_at_call 100; (with_reducible refine (HCT.out _ (HT.out.below HV.out.hb)).mono ?_); rintro e w1 ⟨rfl, hb⟩; replace HV := Lib.hid (HV.out.up hb); replace f3 := cell_up hb f3; replace f4 := cell_up hb f4; replace f5 := cell_up hb f5; replace f6 := cell_up hb f6; clear hb) | (go_at_call 101; (first | (with_reducible refine (HW0.out _).mono ?_) | (with_reducible refine (HW1.out _).mono ?_)); rintro e w2 ⟨rfl, rfl⟩))
  clear t0 t1 t2 f3 f4 f5 f6
  go_loopw [41] (fun i wr => i = .int .i64 0 ∧ Hid (V57 w A2 c2 wr)) (fun _ _ => 0)
  case atStart => exact ⟨rfl, HV⟩
  case round =>
    clear HV
    obtain ⟨rfl, HV⟩ := hrel
    go_upto_region 13 with fail
    have HM : Hid ((wr.alloc (.map #[] 0)).heap[wr.heap.size]? = some (.map #[] 0)) := Lib.hid (heap_alloc_new _ _)
    have HMS : Hid (w.heap.size + 1 < wr.heap.size) := Lib.hid (lt_of_heap HV.out.tb)
    replace HV := Lib.hid (HV.out.up (below_box wr (.map #[] 0)))
    generalize wr.alloc (.map #[] 0) = W3 at *
    generalize wr.heap.size = mb at *
    go_upto_region 14 with fail
    go_loopw [71] (fun i wr => ∃ k : Nat, k ≤ 1 ∧ i = .int .i64 (k : Int) ∧ Hid (k = 0 → wr.heap[mb]? = some (.map #[] 0)) ∧ Hid (V57 w A2 c2 wr)) (fun i _ => 1 - (intOf i).toNat)
    case atStart => exact ⟨0, by omega, rfl, Lib.hid (fun _ => HM.out), HV⟩
    case round =>
      clear HV HM
      obtain ⟨k, hk, rfl, HM, HV⟩ := hrel
      by_cases hk0 : k = 0
      · subst hk0
        have HP1 := HP.out.up HV.out.hb
        obtain ⟨p0, p1, p2, p3, p4, p5⟩ := HP1
        go_upto_region 16 with fail
        have HPB := Lib.hid (below_box wr (.cells #[.int .i64 7, .int .i64 0, .int .i64 1, .int .i64 0, .slice none 0 0, .int .i64 0] 85))
        have HPN : Hid ((wr.alloc (.cells #[.int .i64 7, .int .i64 0, .int .i64 1, .int .i64 0, .slice none 0 0, .int .i64 0] 85)).heap[wr.heap.size]? = some (.cells #[.int .i64 7, .int .i64 0, .int .i64 1, .int .i64 0, .slice none 0 0, .int .i64 0] 85 (0, 0))) := Lib.hid (heap_alloc_new _ _)
        replace HV := Lib.hid (HV.out.up HPB.out)
        have HM2 : Hid ((wr.alloc (.cells #[.int .i64 7, .int .i64 0, .int .i64 1, .int .i64 0, .slice none 0 0, .int .i64 0] 85)).heap[mb]? = some (.map #[] 0)) := Lib.hid ((HPB.out.block _ (lt_of_heap (HM.out rfl))).trans (HM.out rfl))
        generalize wr.alloc (.cells #[.int .i64 7, .int .i64 0, .int .i64 1, .int .i64 0, .slice none 0 0, .int .i64 0] 85) = W4 at *
        generalize wr.heap.size = kb at *
        clear p0 p1 p2 p3 p4 p5 HPB HM
        have r0 : W4.cell? ⟨kb, 0, none⟩ = some (.int .i64 7) := by rw [Lib.cell_of_heap HPN.out]; rfl
        have r1 : W4.cell? ⟨kb, 1, none⟩ = some (.int .i64 0) := by rw [Lib.cell_of_heap HPN.out]; rfl
        have r2 : W4.cell? ⟨kb, 2, none⟩ = some (.int .i64 1) := by rw [Lib.cell_of_heap HPN.out]; rfl
        obtain ⟨t0, t1, t2⟩ := HV.out.cells
        have hlook := look_mt (k := 7) HM2.out
        go_upto_region 18 with (first | (go_at_call 101; (with_reducible refine (HW7.out _).mono ?_); rintro e w2 ⟨rfl, rfl⟩) | (go_at_call 103; (first | (with_reducible refine (HN0.out _).mono ?_) | (with_reducible refine (HN1.out _).mono ?_)); rintro e w2 ⟨rfl, hb⟩; replace HV := Lib.hid (HV.out.up hb); replace HM2 := Lib.hid ((hb.block _ (lt_of_heap HM2.out)).trans HM2.out); replace r0 := cell_up hb r0; replace r2 := cell_up hb r2; (try clear r1); clear t0 t1 t2; obtain ⟨t0, t1, t2⟩ := HV.out.cells; clear hb))
        clear t0 t1 t2 r2 hlook
        have hupd := upd_mt (k := 7) (.bool true) HM2.out
        go_wp2_with fail
        go_roundw
        case rel => exact ⟨1, by omega, by go_num, Lib.hid (fun h => absurd h (by decide)), Lib.hid (HV.out.put HMS.out)⟩
        case measure => simp [intOf]
      · obtain rfl : k = 1 := by omega
        go_upto_region 23 with (go_at_call 11; (with_reducible refine (HTV.out _ (HL.out.below HV.out.hb)).mono ?_); rintro e w2 ⟨rfl, hb⟩; replace HV := Lib.hid (HV.out.up hb); clear hb)
        go_loopw [108] (fun i wr => ∃ k : Nat, k ≤ 4 ∧ i = .int .i64 (k : Int) ∧ Hid (V57 w A2 c2 wr)) (fun i _ => 4 - (intOf i).toNat)
        case atStart => exact ⟨0, by omega, rfl, HV⟩
        case round =>
          clear HV
          obtain ⟨k, hk, rfl, HV⟩ := hrel
          by_cases hlt : k < 4
          · obtain ⟨b, o, x, rfl, hx, hxo⟩ := (HL.out.below HV.out.hb).at_ (k := k) (by simpa [ex57L] using hlt)
            obtain ⟨q0, q1, q2, q3, q4, q5⟩ := hxo
            have hlt' : (k : Int) < 4 := by omega
            have HX := Lib.hid (List.mem_of_getElem? hx)
            clear hx
            go_upto_region 25 with fail
            obtain ⟨W5, hW5⟩ : ∃ W, wr.alloc (.cells #[.int .i64 x.t, .int .i64 x.k, .int .i64 x.n, .int .i64 x.a, .int .i64 x.p, .int .i64 x.r] 40) = W := ⟨_, rfl⟩
            have sW5 := ev_box wr x
            have hbW5 := below_box wr (.cells #[.int .i64 x.t, .int .i64 x.k, .int .i64 x.n, .int .i64 x.a, .int .i64 x.p, .int .i64 x.r] 40)
            rw [hW5] at sW5 hbW5 ⊢
            clear hW5
            obtain ⟨s0, s1, s2, s3, s4, s5⟩ := sW5
            simp only [Nat.zero_add] at s1 s2 s3 s4 s5
            replace HV := Lib.hid (HV.out.up hbW5)
            obtain ⟨t0, t1, t2⟩ := HV.out.cells
            go_wp2_with (go_at_call 104; (with_reducible refine (HNM.out _ x (HT.out.below HV.out.hb) HX.out).mono ?_); rintro e w2 ⟨rfl, hb⟩; replace HV := Lib.hid (HV.out.up hb); clear hb)
            go_roundw
            case rel => exact ⟨k + 1, by omega, by go_num, HV⟩
            case measure => simp [intOf]; omega
          · obtain rfl : k = 4 := by omega
            go_wp2_with fail
            go_ret
            exact ⟨rfl, HV.out.hb⟩

end Go.Proofs.YtjcnjnonhncelaaDoor
