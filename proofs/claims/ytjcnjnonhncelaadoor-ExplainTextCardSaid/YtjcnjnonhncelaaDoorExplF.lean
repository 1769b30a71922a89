/-
  (*explain.story).failure at the example of the document of layer 57.
-/
import Derived.Test.YtjcnjnonhncelaaDoorExplE
import Derived.Test.YtjcnjnonhncelaaDoorMask
import Derived.Test.YtjcnjnonhncelaaDoorReg
import Derived.Maps.RangeRun
namespace Go.Proofs.YtjcnjnonhncelaaDoor
open Go.RowKit Go.Sort
set_option linter.unusedSimpArgs false
set_option linter.unusedVariables false

theorem upd_cm {w : World} {r : Nat} (v : Value) (hb : w.heap[r]? = some (.map #[] 0)) : (Instr.mapUpdate 145 (.map (some r)) (.agg #[.int .i64 1, .int .i64 0]) v).run Tryd.prog w = .ok () (putMap w r (.map #[{ key := .agg #[.int .i64 1, .int .i64 0], val := v, born := 0 }] 1)) := by
  have hf : (Instr.findKey 136 (.agg #[.int .i64 1, .int .i64 0]) ([] : List MapEntry)).run Tryd.prog w = .ok none w := by kernel_rfl
  have hc : (Instr.checkKey false 10000 136 (.agg #[.int .i64 1, .int .i64 0])).run Tryd.prog w = .ok () w := by kernel_rfl
  simp [Instr.mapUpdate, run_underlying Tryd.underlying145, MapKept.run_getObj_map hb, hc, hf, MapKept.run_setObj_map _ hb, Result.andThen, putMap]
theorem next_one {P : Program} {w : World} {ty : TypeId} {r bm : Nat} {key val : Value} (hr : w.heap[r]? = some (.mapIter (some bm) 1 #[] 1)) (hb : w.heap[bm]? = some (.map #[{ key := key, val := val, born := 0 }] 1)) :
    (Instr.next (.pointer (some ⟨r, 0, none⟩)) false ty).run P w = .ok (.tuple #[.bool true, key, val]) (putMap w r (.mapIter (some bm) 1 #[0] 1)) := by
  have h1 : (setObj r (.mapIter (some bm) 1 #[0] 1)).run P w = .ok () (putMap w r (.mapIter (some bm) 1 #[0] 1)) := run_setObj_at hr _
  simp [Instr.next, getObj, Sem.run_bind, Sem.run, hr, hb, Result.andThen, choose, Question.forced, h1]
theorem next_none {P : Program} {w : World} {ty : TypeId} {r bm : Nat} {key val : Value} (hr : w.heap[r]? = some (.mapIter (some bm) 1 #[0] 1)) (hb : w.heap[bm]? = some (.map #[{ key := key, val := val, born := 0 }] 1)) :
    (Instr.next (.pointer (some ⟨r, 0, none⟩)) false ty).run P w = .ok (.tuple #[.bool false]) w := by
  simp [Instr.next, getObj, Sem.run_bind, Sem.run, hr, hb, Result.andThen, choose, Question.forced]
theorem entry_one {P : Program} {w : World} {r bm : Nat} {key val : Value} (hr : w.heap[r]? = some (.mapIter (some bm) 1 #[0] 1)) (hb : w.heap[bm]? = some (.map #[{ key := key, val := val, born := 0 }] 1)) :
    (Instr.entry (.pointer (some ⟨r, 0, none⟩))).run P w = .ok (.tuple #[key, val]) w :=
  run_entry_at w r bm 1 #[] _ 1 { key := key, val := val, born := 0 } hr hb (by simp) (by simp)
theorem Sty.put {sb : Nat} {A2 : Option Addr} {c2 : Nat} {A : Option Addr} {cl g cv B r : Nat} {w w' : World} {o : Obj} (h : Sty sb A2 c2 A cl g cv w) (hb : Below w.heap.size w w') (hr : w.heap.size ≤ r) : Sty sb A2 c2 A cl g cv (putMap w' r o) := h.up (putMap_below hb hr)

set_option maxRecDepth 100000 in
set_option maxHeartbeats 4000000 in
theorem story_failure57 (sb : Nat) (A2 : Option Addr) (c2 : Nat) (A : Option Addr) (cl g cv : Nat) (w : World) (h : Sty sb A2 c2 A cl g cv w) :
    Calls Tryd.prog 88 #[.pointer (some ⟨sb, 0, none⟩), .int .i64 3, .int .i64 0] w fun e w' => e = .returned (.int .i64 0) ∧ Below w.heap.size w w' := by
  have HMk : Hid (∀ W, TAt W none A2 ex57T → Calls Tryd.prog 109 #[.agg #[.int .i64 2, .slice none 0 0, .slice A2 1 c2], .agg #[.int .i64 1, .int .i64 0]] W (RetBE W ([true, true], 0))) := Lib.hid fun W h => by
    have := component_Mask ex57T none A2 0 c2 1 0 W h (by decide)
    rwa [show unionV ex57T [(1, 0)] = ([true, true], 0) by decide] at this
  obtain ⟨b, o, hAe, hev⟩ := ev57_at h.l
  subst hAe
  have HS := Lib.hid h
  have hcl : (3 : Int) ≤ (cl : Int) := by have := h.lc; omega
  have h7 := h.at7
  clear h
  have hmm := @run_makeMap Tryd.prog
  have hrange : ∀ (w' : World) (bm : Nat), w'.heap[bm]? = some (.map #[{ key := .agg #[.int .i64 1, .int .i64 0], val := .int .i64 0, born := 0 }] 1) → (Instr.range 145 (.map (some bm))).run Tryd.prog w' = .ok (.pointer (some ⟨w'.heap.size, 0, none⟩)) (w'.alloc (.mapIter (some bm) 1 #[] 1)) := fun w' bm hb => run_range_map w' _ _ _ bm _ 1 Tryd.underlying145 hb
  have HRG := Lib.hid hrange
  clear hrange
  go_enter Tryd.func88, Tryd.ntmps88
  go_upto_region 2 with fail
  have HM : Hid ((w.alloc (.map #[] 0)).heap[w.heap.size]? = some (.map #[] 0)) := Lib.hid (heap_alloc_new _ _)
  have HB := Lib.hid (below_box w (.map #[] 0))
  have HSB : Hid (Sty sb A2 c2 (some ⟨b, o, none⟩) cl g cv (w.alloc (.map #[] 0))) := Lib.hid (HS.out.up HB.out)
  generalize w.alloc (.map #[] 0) = W1 at *
  clear h7
  have h7 := HSB.out.at7
  go_upto_region 3 with fail
  go_loopw [24] (fun i wr => ∃ k : Nat, k ≤ 3 ∧ i = .int .i64 (k : Int) ∧ Hid (Below w.heap.size w wr) ∧ Hid (k = 0 → wr.heap[w.heap.size]? = some (.map #[] 0)) ∧ Hid (0 < k → wr.heap[w.heap.size]? = some (.map #[{ key := .agg #[.int .i64 1, .int .i64 0], val := .int .i64 0, born := 0 }] 1))) (fun i _ => 3 - (intOf i).toNat)
  case atStart => exact ⟨0, by omega, rfl, HB, Lib.hid (fun _ => HM.out), Lib.hid (fun h => absurd h (by decide))⟩
  case round =>
    clear HB HM HSB h7
    obtain ⟨k, hk, rfl, HB, HM0, HM1⟩ := hrel
    have HSr := Lib.hid (HS.out.up HB.out)
    have hevr := fun k x hx => ((hev k x hx).up HB.out)
    have hcase : k = 0 ∨ k = 1 ∨ k = 2 ∨ k = 3 := by omega
    rcases hcase with rfl | rfl | rfl | rfl
    · obtain ⟨q0, q1, q2, q3, q4, q5⟩ := hevr 0 _ rfl
      simp only [Nat.zero_mul, Nat.add_zero, Nat.one_mul] at q0 q1 q2 q3 q4 q5
      go_upto_region 5 with fail
      have HX := Lib.hid (below_box wr (.cells #[.int .i64 5, .int .i64 5, .int .i64 0, .int .i64 1, .int .i64 0, .int .i64 0] 40))
      have HXh : Hid ((wr.alloc (.cells #[.int .i64 5, .int .i64 5, .int .i64 0, .int .i64 1, .int .i64 0, .int .i64 0] 40)).heap[wr.heap.size]? = some (.cells #[.int .i64 5, .int .i64 5, .int .i64 0, .int .i64 1, .int .i64 0, .int .i64 0] 40 (0, 0))) := Lib.hid (heap_alloc_new _ _)
      clear q0 q1 q2 q3 q4 q5
      have HB2 := Lib.hid (below_next HB.out HX.out)
      have HMb := Lib.hid (fun (o : Obj) (h9 : wr.heap[w.heap.size]? = some o) => (HX.out.block _ (lt_of_heap h9)).trans h9)
      generalize wr.alloc (.cells #[.int .i64 5, .int .i64 5, .int .i64 0, .int .i64 1, .int .i64 0, .int .i64 0] 40) = W5 at *
      generalize wr.heap.size = eb at *
      obtain ⟨s0, s1, s2, s3, s4, s5, _⟩ := six_factsX HXh.out
      go_upto_region 6 with fail
      have HY := Lib.hid (below_box W5 (.cells #[.int .i64 1, .int .i64 0] 136))
      have HYh : Hid ((W5.alloc (.cells #[.int .i64 1, .int .i64 0] 136)).heap[W5.heap.size]? = some (.cells #[.int .i64 1, .int .i64 0] 136 (0, 0))) := Lib.hid (heap_alloc_new _ _)
      replace s1 := cell_up HY.out s1
      have HB3 := Lib.hid (below_next HB2.out HY.out)
      have HMc := Lib.hid (fun (o : Obj) (h9 : W5.heap[w.heap.size]? = some o) => (HY.out.block _ (lt_of_heap h9)).trans h9)
      clear s0 s2 s3 s4 s5 HX HY
      generalize W5.alloc (.cells #[.int .i64 1, .int .i64 0] 136) = W6 at *
      generalize W5.heap.size = cb at *
      have HMr := Lib.hid (HMc.out _ (HMb.out _ (HM0.out rfl)))
      have k0 : W6.cell? ⟨cb, 0, none⟩ = some (.int .i64 1) := by rw [Lib.cell_of_heap HYh.out]; rfl
      have k1 : W6.cell? ⟨cb, 1, none⟩ = some (.int .i64 0) := by rw [Lib.cell_of_heap HYh.out]; rfl
      have hupd := upd_cm (.int .i64 0) HMr.out
      go_wp2_with fail
      go_roundw
      case rel => exact ⟨1, by omega, by go_num, Lib.hid (putMap_below HB3.out (Nat.le_refl _)), Lib.hid (fun h9 => absurd h9 (by decide)), Lib.hid (fun _ => putMap_new HMr.out)⟩
      case measure => simp [intOf]
    · obtain ⟨q0, q1, q2, q3, q4, q5⟩ := hevr 1 _ rfl
      simp only [Nat.zero_mul, Nat.add_zero, Nat.one_mul] at q0 q1 q2 q3 q4 q5
      go_upto_region 5 with fail
      have HX := Lib.hid (below_box wr (.cells #[.int .i64 6, .int .i64 1, .int .i64 0, .int .i64 0, .int .i64 7, .int .i64 0] 40))
      have HXh : Hid ((wr.alloc (.cells #[.int .i64 6, .int .i64 1, .int .i64 0, .int .i64 0, .int .i64 7, .int .i64 0] 40)).heap[wr.heap.size]? = some (.cells #[.int .i64 6, .int .i64 1, .int .i64 0, .int .i64 0, .int .i64 7, .int .i64 0] 40 (0, 0))) := Lib.hid (heap_alloc_new _ _)
      clear q0 q1 q2 q3 q4 q5
      have HB2 := Lib.hid (below_next HB.out HX.out)
      have HMb := Lib.hid (fun (o : Obj) (h9 : wr.heap[w.heap.size]? = some o) => (HX.out.block _ (lt_of_heap h9)).trans h9)
      generalize wr.alloc (.cells #[.int .i64 6, .int .i64 1, .int .i64 0, .int .i64 0, .int .i64 7, .int .i64 0] 40) = W5 at *
      generalize wr.heap.size = eb at *
      obtain ⟨s0, s1, s2, s3, s4, s5, _⟩ := six_factsX HXh.out
      go_upto_region 6 with fail
      have HY := Lib.hid (below_box W5 (.cells #[.int .i64 0, .int .i64 0] 136))
      have HYh : Hid ((W5.alloc (.cells #[.int .i64 0, .int .i64 0] 136)).heap[W5.heap.size]? = some (.cells #[.int .i64 0, .int .i64 0] 136 (0, 0))) := Lib.hid (heap_alloc_new _ _)
      replace s1 := cell_up HY.out s1
      have HB3 := Lib.hid (below_next HB2.out HY.out)
      have HMc := Lib.hid (fun (o : Obj) (h9 : W5.heap[w.heap.size]? = some o) => (HY.out.block _ (lt_of_heap h9)).trans h9)
      clear s0 s2 s3 s4 s5 HX HY
      generalize W5.alloc (.cells #[.int .i64 0, .int .i64 0] 136) = W6 at *
      generalize W5.heap.size = cb at *
      have HMr := Lib.hid (HMc.out _ (HMb.out _ (HM1.out (by decide))))
      go_wp2_with fail
      go_roundw
      case rel => exact ⟨2, by omega, by go_num, HB3, Lib.hid (fun h9 => absurd h9 (by decide)), Lib.hid (fun _ => HMr.out)⟩
      case measure => simp [intOf]
    · obtain ⟨q0, q1, q2, q3, q4, q5⟩ := hevr 2 _ rfl
      simp only [Nat.zero_mul, Nat.add_zero, Nat.one_mul] at q0 q1 q2 q3 q4 q5
      go_upto_region 5 with fail
      have HX := Lib.hid (below_box wr (.cells #[.int .i64 6, .int .i64 2, .int .i64 0, .int .i64 0, .int .i64 7, .int .i64 0] 40))
      have HXh : Hid ((wr.alloc (.cells #[.int .i64 6, .int .i64 2, .int .i64 0, .int .i64 0, .int .i64 7, .int .i64 0] 40)).heap[wr.heap.size]? = some (.cells #[.int .i64 6, .int .i64 2, .int .i64 0, .int .i64 0, .int .i64 7, .int .i64 0] 40 (0, 0))) := Lib.hid (heap_alloc_new _ _)
      clear q0 q1 q2 q3 q4 q5
      have HB2 := Lib.hid (below_next HB.out HX.out)
      have HMb := Lib.hid (fun (o : Obj) (h9 : wr.heap[w.heap.size]? = some o) => (HX.out.block _ (lt_of_heap h9)).trans h9)
      generalize wr.alloc (.cells #[.int .i64 6, .int .i64 2, .int .i64 0, .int .i64 0, .int .i64 7, .int .i64 0] 40) = W5 at *
      generalize wr.heap.size = eb at *
      obtain ⟨s0, s1, s2, s3, s4, s5, _⟩ := six_factsX HXh.out
      go_upto_region 6 with fail
      have HY := Lib.hid (below_box W5 (.cells #[.int .i64 0, .int .i64 0] 136))
      have HYh : Hid ((W5.alloc (.cells #[.int .i64 0, .int .i64 0] 136)).heap[W5.heap.size]? = some (.cells #[.int .i64 0, .int .i64 0] 136 (0, 0))) := Lib.hid (heap_alloc_new _ _)
      replace s1 := cell_up HY.out s1
      have HB3 := Lib.hid (below_next HB2.out HY.out)
      have HMc := Lib.hid (fun (o : Obj) (h9 : W5.heap[w.heap.size]? = some o) => (HY.out.block _ (lt_of_heap h9)).trans h9)
      clear s0 s2 s3 s4 s5 HX HY
      generalize W5.alloc (.cells #[.int .i64 0, .int .i64 0] 136) = W6 at *
      generalize W5.heap.size = cb at *
      have HMr := Lib.hid (HMc.out _ (HMb.out _ (HM1.out (by decide))))
      go_wp2_with fail
      go_roundw
      case rel => exact ⟨3, by omega, by go_num, HB3, Lib.hid (fun h9 => absurd h9 (by decide)), Lib.hid (fun _ => HMr.out)⟩
      case measure => simp [intOf]
    · have HMr := Lib.hid (HM1.out (by decide))
      have hrg := HRG.out _ _ HMr.out
      go_upto_region 14 with fail
      have HIt : Hid ((wr.alloc (.mapIter (some w.heap.size) 1 #[] 1)).heap[wr.heap.size]? = some (.mapIter (some w.heap.size) 1 #[] 1)) := Lib.hid (heap_alloc_new _ _)
      have HMi : Hid ((wr.alloc (.mapIter (some w.heap.size) 1 #[] 1)).heap[w.heap.size]? = some (.map #[{ key := .agg #[.int .i64 1, .int .i64 0], val := .int .i64 0, born := 0 }] 1)) := Lib.hid (((below_box wr _).block _ (lt_of_heap HMr.out)).trans HMr.out)
      have HBi := Lib.hid (below_next HB.out (below_box wr (.mapIter (some w.heap.size) 1 #[] 1)))
      have HIL : Hid (w.heap.size < wr.heap.size) := Lib.hid (lt_of_heap HMr.out)
      generalize wr.alloc (.mapIter (some w.heap.size) 1 #[] 1) = W2 at *
      generalize wr.heap.size = it at *
      clear hrg
      go_loopw [11] (fun bst wr => (bst = .int .i64 (-1) ∧ Hid (wr.heap[it]? = some (.mapIter (some w.heap.size) 1 #[] 1)) ∧ Hid (wr.heap[w.heap.size]? = some (.map #[{ key := .agg #[.int .i64 1, .int .i64 0], val := .int .i64 0, born := 0 }] 1)) ∧ Hid (Below w.heap.size w wr)) ∨ (bst = .int .i64 0 ∧ Hid (wr.heap[it]? = some (.mapIter (some w.heap.size) 1 #[0] 1)) ∧ Hid (wr.heap[w.heap.size]? = some (.map #[{ key := .agg #[.int .i64 1, .int .i64 0], val := .int .i64 0, born := 0 }] 1)) ∧ Hid (Below w.heap.size w wr))) (fun bst _ => if intOf bst = 0 then 0 else 1)
      case atStart => exact .inl ⟨rfl, HIt, HMi, HBi⟩
      case round =>
        clear HIt HMi HBi
        rcases hrel with ⟨rfl, HIt, HMi, HBi⟩ | ⟨rfl, HIt, HMi, HBi⟩
        · have hnx : ∀ ty, (Instr.next (.pointer (some ⟨it, 0, none⟩)) false ty).run Tryd.prog wr = .ok (.tuple #[.bool true, .agg #[.int .i64 1, .int .i64 0], .int .i64 0]) (putMap wr it (.mapIter (some w.heap.size) 1 #[0] 1)) := fun ty => next_one HIt.out HMi.out
          go_upto_region 15 with fail
          have HIt2 : Hid ((putMap wr it (.mapIter (some w.heap.size) 1 #[0] 1)).heap[it]? = some (.mapIter (some w.heap.size) 1 #[0] 1)) := Lib.hid (putMap_new HIt.out)
          have HMi2 : Hid ((putMap wr it (.mapIter (some w.heap.size) 1 #[0] 1)).heap[w.heap.size]? = some (.map #[{ key := .agg #[.int .i64 1, .int .i64 0], val := .int .i64 0, born := 0 }] 1)) := Lib.hid ((putMap_block (by have := HIL.out; omega)).trans HMi.out)
          have HB2 : Hid (Below w.heap.size w (putMap wr it (.mapIter (some w.heap.size) 1 #[0] 1))) := Lib.hid (putMap_below HBi.out (by have := HIL.out; omega))
          generalize putMap wr it (.mapIter (some w.heap.size) 1 #[0] 1) = W3 at *
          clear hnx
          have hent := entry_one (P := Tryd.prog) HIt2.out HMi2.out
          go_upto_region 16 with fail
          have HK := Lib.hid (below_box W3 (.cells #[.int .i64 1, .int .i64 0] 136))
          have HKh : Hid ((W3.alloc (.cells #[.int .i64 1, .int .i64 0] 136)).heap[W3.heap.size]? = some (.cells #[.int .i64 1, .int .i64 0] 136 (0, 0))) := Lib.hid (heap_alloc_new _ _)
          have HB3 := Lib.hid (below_next HB2.out HK.out)
          have HIt3 := Lib.hid ((HK.out.block _ (lt_of_heap HIt2.out)).trans HIt2.out)
          have HMi3 := Lib.hid ((HK.out.block _ (lt_of_heap HMi2.out)).trans HMi2.out)
          generalize W3.alloc (.cells #[.int .i64 1, .int .i64 0] 136) = W4 at *
          generalize W3.heap.size = kb at *
          clear hent HIt2 HMi2 HB2 HIt HMi HBi HK HSr
          obtain ⟨W5, hW5⟩ : ∃ W, W = W4.drew := ⟨_, rfl⟩
          have HD : Hid (Below W4.heap.size W4 W5) := Lib.hid (hW5 ▸ below_drawn _)
          have HB5 := Lib.hid (below_next HB3.out HD.out)
          have HS5 := Lib.hid (HS.out.up HB5.out)
          have HIt5 := Lib.hid ((HD.out.block _ (lt_of_heap HIt3.out)).trans HIt3.out)
          have HMi5 := Lib.hid ((HD.out.block _ (lt_of_heap HMi3.out)).trans HMi3.out)
          have HK5 := Lib.hid ((HD.out.block _ (lt_of_heap HKh.out)).trans HKh.out)
          have HC5 : Hid (W5.cell? ⟨sb, 0, none⟩ = some (.int .i64 2) ∧ W5.cell? ⟨sb, 1, none⟩ = some (.slice none 0 0) ∧ W5.cell? ⟨sb, 2, none⟩ = some (.slice A2 1 c2) ∧ W5.cell? ⟨kb, 0, none⟩ = some (.int .i64 1) ∧ W5.cell? ⟨kb, 1, none⟩ = some (.int .i64 0)) := Lib.hid ⟨HS5.out.tp.1, HS5.out.tp.2.1, HS5.out.tp.2.2, by rw [Lib.cell_of_heap HK5.out]; rfl, by rw [Lib.cell_of_heap HK5.out]; rfl⟩
          clear HIt3 HMi3 HB3 HKh HD
          refine wp_region_held_drew (S := (fun w' => w'.cell? ⟨sb, 0, none⟩ = some (.int .i64 2) ∧ w'.cell? ⟨sb, 1, none⟩ = some (.slice none 0 0) ∧ w'.cell? ⟨sb, 2, none⟩ = some (.slice A2 1 c2) ∧ w'.cell? ⟨kb, 0, none⟩ = some (.int .i64 1) ∧ w'.cell? ⟨kb, 1, none⟩ = some (.int .i64 0))) (by kernel_rfl) ?_ (fun hHeld => ?_)
          · rw [← hW5]; exact HC5.out
          rw [← hW5] at hHeld ⊢
          clear hW5
          repeat' (first | ((first | (refine takeL (i := 0) (v := ?_) rfl (by kernel_rfl) (by decide +kernel) (by decide +kernel) (fun _ _ _ h => h) (Or.inl ⟨by rfl, ?_⟩) (by assumption) ?_; rotate_left; (focus (intro w9 hS9; (try dsimp only at hS9); go_simp; (try with_reducible rfl); done))) | (refine takeL (i := 1) (v := ?_) rfl (by kernel_rfl) (by decide +kernel) (by decide +kernel) (fun _ _ _ h => h) (Or.inl ⟨by rfl, ?_⟩) (by assumption) ?_; rotate_left; (focus (intro w9 hS9; (try dsimp only at hS9); go_simp; (try with_reducible rfl); done))) | (refine takeL (i := 2) (v := ?_) rfl (by kernel_rfl) (by decide +kernel) (by decide +kernel) (fun _ _ _ h => h) (Or.inl ⟨by rfl, ?_⟩) (by assumption) ?_; rotate_left; (focus (intro w9 hS9; (try dsimp only at hS9); go_simp; (try with_reducible rfl); done))) | (refine takeL (i := 3) (v := ?_) rfl (by kernel_rfl) (by decide +kernel) (by decide +kernel) (fun _ _ _ h => h) (Or.inl ⟨by rfl, ?_⟩) (by assumption) ?_; rotate_left; (focus (intro w9 hS9; (try dsimp only at hS9); go_simp; (try with_reducible rfl); done))) | (refine takeL (i := 4) (v := ?_) rfl (by kernel_rfl) (by decide +kernel) (by decide +kernel) (fun _ _ _ h => h) (Or.inl ⟨by rfl, ?_⟩) (by assumption) ?_; rotate_left; (focus (intro w9 hS9; (try dsimp only at hS9); go_simp; (try with_reducible rfl); done))) | (refine takeL (i := 5) (v := ?_) rfl (by kernel_rfl) (by decide +kernel) (by decide +kernel) (fun _ _ _ h => h) (Or.inl ⟨by rfl, ?_⟩) (by assumption) ?_; rotate_left; (focus (intro w9 hS9; (try dsimp only at hS9); go_simp; (try with_reducible rfl); done))) | (refine takeL (i := 7) (v := ?_) rfl (by kernel_rfl) (by decide +kernel) (by decide +kernel) (fun _ _ _ h => h) (Or.inl ⟨by rfl, ?_⟩) (by assumption) ?_; rotate_left; (focus (intro w9 hS9; (try dsimp only at hS9); go_simp; (try with_reducible rfl); done))) | (refine takeL (i := 8) (v := ?_) rfl (by kernel_rfl) (by decide +kernel) (by decide +kernel) (fun _ _ _ h => h) (Or.inl ⟨by rfl, ?_⟩) (by assumption) ?_; rotate_left; (focus (intro w9 hS9; (try dsimp only at hS9); go_simp; (try with_reducible rfl); done))) | (refine takeL (i := 9) (v := ?_) rfl (by kernel_rfl) (by decide +kernel) (by decide +kernel) (fun _ _ _ h => h) (Or.inl ⟨by rfl, ?_⟩) (by assumption) ?_; rotate_left; (focus (intro w9 hS9; (try dsimp only at hS9); go_simp; (try with_reducible rfl); done))) | (refine takeL (i := 10) (v := ?_) rfl (by kernel_rfl) (by decide +kernel) (by decide +kernel) (fun _ _ _ h => h) (Or.inl ⟨by rfl, ?_⟩) (by assumption) ?_; rotate_left; (focus (intro w9 hS9; (try dsimp only at hS9); go_simp; (try with_reducible rfl); done))) | (refine takeL (i := 11) (v := ?_) rfl (by kernel_rfl) (by decide +kernel) (by decide +kernel) (fun _ _ _ h => h) (Or.inl ⟨by rfl, ?_⟩) (by assumption) ?_; rotate_left; (focus (intro w9 hS9; (try dsimp only at hS9); go_simp; (try with_reducible rfl); done))) | fail); (try simp only [Act.put, List.setIfInBounds_toArray, List.set_cons_zero, List.set_cons_succ])) | ((first | (refine wpAnyH_ready (rs := [6]) (by decide +kernel) (by simp) ?_; refine consL rfl (fun K hK => ?_) ?_; rotate_left; exact AllReadyH.nil) | fail); all_goals ((first | (go_at_call 109; (with_reducible refine (HMk.out _ HS5.out.t).mono ?_); rintro e w5 ⟨Am, cm, rfl, hm, hb⟩; have HMR := Lib.hid hm; have HMB := Lib.hid hb; clear hm hb) | (go_simp; first | done | (first | (go_at_call 109; (with_reducible refine (HMk.out _ HS5.out.t).mono ?_); rintro e w5 ⟨Am, cm, rfl, hm, hb⟩; have HMR := Lib.hid hm; have HMB := Lib.hid hb; clear hm hb))) | go_simp); (first | (with_reducible refine hK.out _ _ ?_ ?_) | (go_wp2_with fail; refine hK.out _ _ ?_ ?_)); (focus ((first | with_reducible exact hHeld | exact ⟨cell_up HMB.out hHeld.1, cell_up HMB.out hHeld.2.1, cell_up HMB.out hHeld.2.2.1, cell_up HMB.out hHeld.2.2.2.1, cell_up HMB.out hHeld.2.2.2.2⟩))); clear hK K hHeld; intro hHeld; (try simp only [Act.put, List.setIfInBounds_toArray, List.set_cons_zero, List.set_cons_succ]))) | (refine wpAnyH_done (by decide +kernel) ?_ _) | fail)
          clear hHeld
          have hrd : Rd w5 Am [.bool true, .bool true] := HMR.out
          rcases hrd with h9 | ⟨mb, mo, rfl, hmc⟩
          · cases h9
          have m0 := hmc 0 _ rfl
          simp only [Nat.add_zero] at m0
          clear hmc
          go_wp2_with fail
          exact .inr ⟨by decide, Lib.hid ((HMB.out.block _ (lt_of_heap HIt5.out)).trans HIt5.out), Lib.hid ((HMB.out.block _ (lt_of_heap HMi5.out)).trans HMi5.out), Lib.hid (below_next HB5.out HMB.out)⟩
        · have hnx : ∀ ty, (Instr.next (.pointer (some ⟨it, 0, none⟩)) false ty).run Tryd.prog wr = .ok (.tuple #[.bool false]) wr := fun ty => next_none HIt.out HMi.out
          go_wp2_with fail
          go_ret
          exact ⟨rfl, HBi.out⟩

end Go.Proofs.YtjcnjnonhncelaaDoor
