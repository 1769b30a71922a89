/-
  'append(dst, src...)': dst a row of one's own, src any list that reads as data.
  The names of a configuration: slices.Concat, waypointref15's index, keywords, Name and names.
  slices.Concat of two lists of strings; waypointref15.names.
  config.Valid (printed by gen_cfgvw.py).
  waypointref15.Valid (printed by gen_cfgvr.py).
  The bound of the law of valid configurations: waypointlaw15.large (printed by gen_cfgvl.py).
  config's printer: a strings.Builder that is the field of another struct; its method line.
  config's printer: a line (printed by gen_prnl.py).
-/
import Derived.Test.YtfimacgmciogmaaGreatDoorPkBase
import Derived.Test.YtfimacgmciogmaaGreatDoorPkCfgT
import Derived.Lib.AppendZeros
import Derived.Test.YtfimacgmciogmaaGreatDoorCfgVx
import Derived.Deep.CutRange
import Derived.Test.YtfimacgmciogmaaGreatDoorPkReg
import Derived.Test.YtfimacgmciogmaaGreatDoorBuilder
import Derived.Lib.Join
import Derived.Test.YtfimacgmciogmaaGreatDoorCfgC
import Derived.Test.YtfimacgmciogmaaGreatDoorShelf
import Derived.Shelf.RegionOpenPlain
import Derived.Test.YtfimacgmciogmaaGreatDoorPkText
namespace Go.Proofs.YtfimacgmciogmaaGreatDoor
open Go.RowKit Go.Sort
set_option linter.unusedSimpArgs false
set_option linter.unusedVariables false
/-- 'append(dst, src...)': dst a row of one's own, src any list that reads as data (nil, empty or not). -/
theorem run_app_rows {P : Program} (w : World) (base : Nat) (t ty e : TypeId) (i : TypeInfo) (z : Value) (bytes : Nat) (ht : P.underlying t = some (.slice e)) (hi : P.info? e = some i) (hz : i.zero = some z) (size : Nat) (hsz : 0 < size) (hsize : i.size = size) (hby : i.bytes = bytes) (hzs : z.cells.size = size)
  (v : Value) (n : Nat) (xs : List Value) (hown : w.ownsRow base e size v n xs) (A : Option Addr) (m c : Nat) (ys : List Value) (hm : ys.length = m * size) (hr : Rd w A ys) (h1 : ∀ u ∈ ys, u.oneCell' = true)
  (h63 : n + m ≤ maxLen) (hbytes : (n + m) * bytes ≤ 140737488355328) (hbase : base ≤ w.heap.size) :
  ∃ v' w', (Builtin.append_ #[t, t] ty #[v, .slice A m c]).run P w = .ok v' w' ∧ w'.ownsRow base e size v' (n + m) (xs ++ ys) ∧ w.grownBy w' v.ownBlock := by
 cases A with
 | none =>
  have hy : ys = [] := by
   rcases hr with h | ⟨b, o, h, _⟩
   ·exact h
   ·cases h
  subst hy
  have hm0 : m = 0 := by
   rcases Nat.eq_zero_or_pos m with h | h
   ·exact h
   ·have := Nat.mul_pos h hsz; simp at hm; omega
  subst hm0
  refine ⟨v, w, ?_, by simpa using hown, ⟨rfl, rfl, rfl, Nat.le_refl _, fun _ _ _ => rfl⟩⟩
  rcases hown.2 with ⟨rfl, rfl⟩ | ⟨g, cap, cur, rfl, _, _, hnc, _⟩
  ·simp [Builtin.append_, run_underlying ht, sizeOf, typeInfo, hi, Builtin.lenOf, Builtin.firstCells]
  ·simp [Builtin.append_, run_underlying ht, sizeOf, typeInfo, hi, Builtin.lenOf, Builtin.firstCells, hnc, storeCells]
 | some ad =>
  have hc : ∀ j u, ys[j]? = some u → w.cell? (ad.add j) = some u := by
   intro j u hu
   rcases hr with rfl | ⟨b, o, h, hcell⟩
   ·simp at hu
   ·injection h with h
    subst h
    have := hcell j u hu
    rw [← this]
    congr 1
    unfold Addr.add
    split <;> simp_all
  obtain ⟨v', w', hrun, h2, h3, _⟩ := run_append_own (P := P) w base t ty e i z size bytes ht hi hz hsize hby hzs hsz v n xs hown ad m c ys hm hc h1 h63 hbytes hbase
  exact ⟨v', w', hrun, h2, h3⟩
/-- The same at an operation that is wanted, guarded or not. -/
theorem wpList_app_rows {P : Program} (w : World) {ops : Array Oper} {rest : List Oper} {o : Oper} {a : Act} {Q : Exit → Act → World → Prop} (hw : Region.wanted o (yielded ops a.tmps) = true) (s x : Operand) (t : TypeId)
  (ho : o.op = .call { callee := .builtin .append, args := #[s, x], argTypes := #[t, t] })
  (base : Nat) (e : TypeId) (i : TypeInfo) (z : Value) (bytes : Nat) (ht : P.underlying t = some (.slice e)) (hi : P.info? e = some i) (hz : i.zero = some z) (size : Nat) (hsz : 0 < size) (hsize : i.size = size) (hby : i.bytes = bytes) (hzs : z.cells.size = size)
  (v : Value) (n : Nat) (xs : List Value) (hs : a.eval s = v) (hown : w.ownsRow base e size v n xs) (A : Option Addr) (m c : Nat) (ys : List Value) (hx : a.eval x = .slice A m c) (hm : ys.length = m * size) (hr : Rd w A ys) (h1 : ∀ u ∈ ys, u.oneCell' = true)
  (h63 : n + m ≤ maxLen) (hbytes : (n + m) * bytes ≤ 140737488355328) (hbase : base ≤ w.heap.size)
  (h : ∀ v' w', w'.ownsRow base e size v' (n + m) (xs ++ ys) → w.grownBy w' v.ownBlock → wpList P ops Q rest (a.put o.dst v') w') : wpList P ops Q (o :: rest) a w := by
 obtain ⟨v', w', hrun, h2, h3⟩ := run_app_rows (P := P) w base t o.type e i z bytes ht hi hz size hsz hsize hby hzs v n xs hown A m c ys hm hr h1 h63 hbytes hbase
 refine wpList_step fun K hK => ?_
 rw [if_pos hw]
 unfold Oper.wp execOp
 simp only [ho, resolve, invoke, builtin, Sem.run_bind, Sem.run_pure, Result.andThen_ok, List.map_toArray, List.map_cons, List.map_nil, hs, hx, hrun]
 exact hK _ _ (h v' w' h2 h3)
end Go.Proofs.YtfimacgmciogmaaGreatDoor
namespace Go.Proofs.YtfimacgmciogmaaGreatDoor
set_option linter.unusedSimpArgs false
set_option linter.unusedVariables false
open Go.RowKit Go.Shelf Go.Sort
theorem named_long {x : List UInt8} (h : 16 < x.length) : namedB x = false := by
 unfold namedB
 rw [decide_eq_false (show ¬ x.length ≤ 16 by omega)]
 simp
theorem cfg_named_any (x : List UInt8) (w : World) : Calls Tryz.prog 22 #[.string ⟨x.toArray⟩] w fun e w' => e = .returned (.bool (namedB x)) ∧ w = w' := by
 by_cases h : x.length ≤ 100000
 ·exact cfg_named x h w
 ·rw [named_long (by omega)]
  have h0b : (x == []) = false := by cases x with | nil => simp at h | cons a b => rfl
  have h2 : (16 : Int) < (x.length : Int) := by omega
  clear h
  go_enter Tryz.func22, Tryz.ntmps22
  go_wp2
  go_ret
  exact ⟨rfl, rfl⟩
def nmK : List (List UInt8) → List (List UInt8) → Bool
 | _, [] => true
 | seen, x :: r => namedB x && (!decide (x ∈ seen) && nmK (seen ++ [x]) r)
def namesB (l : List (List UInt8)) : Bool := nmK [] l
theorem nmK_step {l : List (List UInt8)} {k : Nat} (hk : k < l.length) : nmK (l.take k) (l.drop k) = (namedB l[k] && (!decide (l[k] ∈ l.take k) && nmK (l.take (k + 1)) (l.drop (k + 1)))) := by
 rw [List.drop_eq_getElem_cons hk, List.take_succ_eq_append_getElem hk]
 rfl
set_option maxRecDepth 100000 in
theorem slices_Grow0 (n : Nat) (hn : n ≤ 1000000) (w : World) : Calls Tryz.prog 49 #[.slice none 0 0, .int .i64 n] w fun e w' => ∃ v, e = .returned v ∧ w'.ownsRow w.heap.size 9 1 v 0 [] ∧ Below w.heap.size w w' := by
 by_cases h0 : n = 0
 ·subst h0
  go_enter Tryz.func49, Tryz.ntmps49
  go_wp2
  go_ret
  exact ⟨_, rfl, World.ownsRow_nil _ _ _ _, Below.refl _ _⟩
 ·obtain ⟨i0, hi, hz0, hz1, hz2⟩ := info_parts strInfo'
  have hr : ∀ ty, (Builtin.append_ #[23, 3] ty #[.slice none 0 0, .int .i64 (n : Int)]).run Tryz.prog w = _ := fun ty =>
   Lib.run_append_nil_zeros w 23 3 ty 9 i0 _ .i64 .i64 Tryz.underlying23 Tryz.underlying3 hi hz0 n (by omega) (by rw [hz1]; decide) (by omega) (by rw [hz2]; omega)
  have hg1 := grownCap_ge w n 0 9
  have hg2 := grownCap_le_maxLen w n 0 9 (by unfold maxLen; omega)
  have hn0 : (0 : Int) < (n : Int) := by omega
  obtain ⟨G, hG⟩ : ∃ G, G = grownCap w n 0 9 := ⟨_, rfl⟩
  rw [← hG] at hr hg1 hg2
  clear hG
  unfold maxLen at hg2
  go_enter Tryz.func49, Tryz.ntmps49
  go_wp2_with (at_builtin; refine Lib.wpList_append_run _ rfl _ _ _ _ rfl _ _ rfl rfl _ _ (hr _) ?_)
  go_ret
  refine ⟨_, rfl, ⟨rfl, .inr ⟨w.heap.size, G, _, rfl, Nat.le_refl _, heap_alloc_new w.drew _, Nat.zero_le _, by unfold maxLen; omega, ?_, by simp⟩⟩, below_next (below_drw2 w) (below_box w.drew _)⟩
  simp [size_zeroCells, Value.cells]; omega
end Go.Proofs.YtfimacgmciogmaaGreatDoor
namespace Go.Proofs.YtfimacgmciogmaaGreatDoor
set_option linter.unusedSimpArgs false
set_option linter.unusedVariables false
open Go.RowKit Go.Shelf Go.Sort
theorem below_grownOwn {w wr w' : World} {B s n : Nat} {E : TypeId} {v : Value} {xs : List Value} (h : Below B w wr) (hB : B ≤ w.heap.size) (ho : wr.ownsRow B E s v n xs) (hg : wr.grownBy w' v.ownBlock) : Below B w w' :=
 h.trans ⟨hg.os, hg.tape, hg.output, hg.size, fun k hk => hg.block k (by have := h.size; omega) (fun e => by have := ho.lt k e.symm; omega)⟩
def cat2 {α : Type} (xs ys : List α) : Nat → List α
 | 0 => []
 | 1 => xs
 | _ => xs ++ ys
theorem strW_one (xs : List (List UInt8)) : ∀ u ∈ xs.map strW, u.oneCell' = true := by
 intro u hu
 obtain ⟨x, _, rfl⟩ := List.mem_map.1 hu
 rfl
set_option maxHeartbeats 4000000 in
set_option maxRecDepth 100000 in
theorem slices_Concat2 (B : Nat) (A1 A2 : Option Addr) (c1 c2 : Nat) (xs ys : List (List UInt8)) (w : World) (h0 : w.cell? ⟨B, 0, none⟩ = some (.slice A1 xs.length c1)) (h1 : w.cell? ⟨B, 1, none⟩ = some (.slice A2 ys.length c2)) (hx : Rd w A1 (xs.map strW)) (hy : Rd w A2 (ys.map strW)) (hxl : xs.length ≤ 100000) (hyl : ys.length ≤ 100000) :
  Calls Tryz.prog 21 #[.slice (some ⟨B, 0, none⟩) 2 2] w fun e w' => ∃ v, e = .returned v ∧ w'.ownsRow w.heap.size 9 1 v (xs ++ ys).length ((xs ++ ys).map strW) ∧ Below w.heap.size w w' := by
 obtain ⟨i0, hi, hz0, hz1, hz2⟩ := info_parts strInfo'
 have H0 := Lib.hid h0
 have H1 := Lib.hid h1
 have HX := Lib.hid hx
 have HY := Lib.hid hy
 have hb0 := Below.refl w.heap.size w
 have HB := Lib.hid hb0
 clear h0 h1 hx hy hb0
 go_enter Tryz.func21, Tryz.ntmps21
 go_wp2_with fail
 go_loopw [3, 11] (fun s i wr => ∃ k : Nat, k ≤ 2 ∧ i = .int .i64 k ∧ s = .int .i64 ((cat2 xs ys k).length : Int) ∧ w = wr) (fun _ i _ => 2 - (intOf i).toNat)
 case atStart => exact ⟨0, by omega, rfl, rfl, rfl⟩
 case round =>
  obtain ⟨k, hk, rfl, rfl, rfl⟩ := hrel
  have h0 := H0.out
  have h1 := H1.out
  have ks : k = 0 ∨ k = 1 ∨ k = 2 := by omega
  rcases ks with rfl | rfl | rfl
  ·simp only [cat2, List.length_nil]
   go_wp2_with fail
   go_roundw
   case rel => exact ⟨1, by omega, by go_num, by simp [cat2], by first | rfl | trivial⟩
   case measure => simp [intOf]
  ·simp only [cat2]
   go_wp2_with fail
   go_roundw
   case rel => exact ⟨2, by omega, by go_num, by simp [cat2], by first | rfl | trivial⟩
   case measure => simp [intOf]
  ·obtain ⟨m, hm⟩ : ∃ m, m = (xs ++ ys).length := ⟨_, rfl⟩
   have hml : m ≤ 1000000 := by rw [hm, List.length_append]; omega
   simp only [cat2]
   rw [← hm]
   have HM := Lib.hid hm
   clear hm h0 h1
   go_wp2_with (go_at_call 49; refine (slices_Grow0 m hml _).mono ?_; rintro e w1 ⟨v1, rfl, ho1, hb1⟩)
   have HO := Lib.hid ho1
   have HB1 := Lib.hid hb1
   clear ho1 hb1
   go_loopw [6, 27] (fun v i wr => ∃ k : Nat, k ≤ 2 ∧ i = .int .i64 k ∧ Hid (wr.ownsRow w.heap.size 9 1 v (cat2 xs ys k).length ((cat2 xs ys k).map strW)) ∧ Hid (Below w.heap.size w wr)) (fun _ i _ => 2 - (intOf i).toNat)
   case atStart => exact ⟨0, by omega, rfl, HO, HB1⟩
   case round =>
    clear HO HB1
    obtain ⟨k, hk, rfl, HO, HB1⟩ := hrel
    have h0 := cell_up HB1.out H0.out
    have h1 := cell_up HB1.out H1.out
    have hws : w.heap.size ≤ wr.heap.size := HB1.out.size
    have ks : k = 0 ∨ k = 1 ∨ k = 2 := by omega
    rcases ks with rfl | rfl | rfl
    ·go_wp2_with (at_builtin; refine wpList_app_rows _ rfl _ _ 23 rfl w.heap.size 9 i0 (.string ⟨#[]⟩) 16 Tryz.underlying23 hi hz0 1 (by decide) hz1 hz2 rfl _ _ _ rfl HO.out A1 xs.length c1 (xs.map strW) rfl (by simp) (HX.out.below HB1.out) (strW_one xs) ?c4 ?c5 ?c6 ?_)
     case c4 => simp [cat2]; unfold maxLen; omega
     case c5 => simp [cat2]; omega
     case c6 => exact hws
     intro v' w2 ho hg
     have HO2 := Lib.hid ho
     have HB2 := Lib.hid (below_grownOwn HB1.out (Nat.le_refl _) HO.out hg)
     clear ho hg
     go_wp2_with fail
     go_roundw
     case rel => exact ⟨1, by omega, by go_num, Lib.hid (by have := HO2.out; simpa [cat2] using this), HB2⟩
     case measure => simp [intOf]
    ·go_wp2_with (at_builtin; refine wpList_app_rows _ rfl _ _ 23 rfl w.heap.size 9 i0 (.string ⟨#[]⟩) 16 Tryz.underlying23 hi hz0 1 (by decide) hz1 hz2 rfl _ _ _ rfl HO.out A2 ys.length c2 (ys.map strW) rfl (by simp) (HY.out.below HB1.out) (strW_one ys) ?c4 ?c5 ?c6 ?_)
     case c4 => simp [cat2]; unfold maxLen; omega
     case c5 => simp [cat2]; omega
     case c6 => exact hws
     intro v' w2 ho hg
     have HO2 := Lib.hid ho
     have HB2 := Lib.hid (below_grownOwn HB1.out (Nat.le_refl _) HO.out hg)
     clear ho hg
     go_wp2_with fail
     go_roundw
     case rel => exact ⟨2, by omega, by go_num, Lib.hid (by have := HO2.out; simpa [cat2] using this), HB2⟩
     case measure => simp [intOf]
    ·go_wp2_with fail
     go_ret
     exact ⟨_, rfl, HO.out, HB1.out⟩
end Go.Proofs.YtfimacgmciogmaaGreatDoor
namespace Go.Proofs.YtfimacgmciogmaaGreatDoor
set_option linter.unusedSimpArgs false
set_option linter.unusedVariables false
open Go.RowKit Go.Shelf Go.Sort
def tmB (c : Cf) : Bool := wB (c.tm.getD 0 0) 1 65536 && (wB (c.tm.getD 1 0) 1 65536 && (wB (c.tm.getD 2 0) 1 65536 && (wB (c.tm.getD 3 0) 1 65536 && wB (c.tm.getD 4 0) 1 65536)))
def topOf (n : Int) (c : Cf) : Topo := ⟨n, c.ov, c.links⟩
/-- What a valid configuration is. -/
def cfgB (n : Int) (c : Cf) : Bool := (valid (topOf n c) && (decide (c.ov.length = 0) || decide (true ∈ c.ov))) && (decide ((c.names.length : Int) = n) && (decide (c.lnames.length = c.links.length) && (namesB (c.names ++ c.lnames) && (tmB c && (prefsB n c.pfx && (polsB n c.links.length c.pols && demsB n c.dems))))))
/-- The sizes within which the walks are made. -/
structure VLim (c : Cf) : Prop where
 p : c.pfx.length ≤ maxLen
 q : c.pols.length ≤ maxLen
 d : c.dems.length ≤ maxLen
 pi : ∀ p ∈ c.pfx, (0 ≤ p.1 ∧ p.1 < 4294967296) ∧ inI p.2.1 ∧ inI p.2.2
 qi : ∀ p ∈ c.pols, inI p.1 ∧ inI p.2.1
theorem valid_ov64 {t : Topo} (h : valid t = true) : t.ov.length ≤ 64 := by
 by_cases h1 : 1 ≤ t.n ∧ t.n ≤ 64
 ·by_cases h2 : t.ov.length = 0
  ·omega
  ·by_cases h3 : (t.ov.length : Int) = t.n
   ·omega
   ·rw [bad3 h2 h3] at h; cases h
 ·rw [bad1 h1] at h; cases h
/-- A boxed configuration and its boxed topology. -/
structure KV (T : TypeId) (w : World) (n : Int) (r : Rws) (c : Cf) (W : World) : Prop where
 k : KC T w n r c W
 t : W.heap[w.heap.size + 1]? = some (.cells #[.int .i64 n, .slice r.aO c.ov.length r.cO, .slice r.aK c.links.length r.cK] 27 (0, 0))
theorem KV.up {T : TypeId} {w : World} {n : Int} {r : Rws} {c : Cf} {W W' : World} (h : KV T w n r c W) (hb : Below W.heap.size W W') : KV T w n r c W' := ⟨h.k.up hb, (hb.block _ (lt_of_heap h.t)).trans h.t⟩
theorem KV.p {T : TypeId} {w : World} {n : Int} {r : Rws} {c : Cf} {W : World} (h : KV T w n r c W) (j : Nat) : W.cell? ⟨w.heap.size, j, none⟩ = (cfCells n r c)[j]? := h.k.p j
theorem KV.q {T : TypeId} {w : World} {n : Int} {r : Rws} {c : Cf} {W : World} (h : KV T w n r c W) (j : Nat) : W.cell? ⟨w.heap.size + 1, j, none⟩ = (#[.int .i64 n, .slice r.aO c.ov.length r.cO, .slice r.aK c.links.length r.cK] : Array Value)[j]? := Lib.cell_of_heap h.t j
theorem KC.all {T : TypeId} {w : World} {n : Int} {r : Rws} {c : Cf} {W : World} {t0 t1 t2 t3 t4 : Int} (h : KC T w n r c W) (e0 : t0 = c.tm.getD 0 0) (e1 : t1 = c.tm.getD 1 0) (e2 : t2 = c.tm.getD 2 0) (e3 : t3 = c.tm.getD 3 0) (e4 : t4 = c.tm.getD 4 0) : W.cell? ⟨w.heap.size, 0, none⟩ = some (.slice r.aN c.names.length r.cN) ∧ W.cell? ⟨w.heap.size, 1, none⟩ = some (.slice r.aL c.lnames.length r.cL) ∧ W.cell? ⟨w.heap.size, 2, none⟩ = some (.int .i64 n) ∧ W.cell? ⟨w.heap.size, 3, none⟩ = some (.slice r.aO c.ov.length r.cO) ∧ W.cell? ⟨w.heap.size, 4, none⟩ = some (.slice r.aK c.links.length r.cK) ∧ W.cell? ⟨w.heap.size, 5, none⟩ = some (.slice r.aP c.pfx.length r.cP) ∧ W.cell? ⟨w.heap.size, 6, none⟩ = some (.slice r.aQ c.pols.length r.cQ) ∧ W.cell? ⟨w.heap.size, 7, none⟩ = some (.slice r.aD c.dems.length r.cD) ∧ W.cell? ⟨w.heap.size, 8, none⟩ = some (.int .i64 t0) ∧ W.cell? ⟨w.heap.size, 9, none⟩ = some (.int .i64 t1) ∧ W.cell? ⟨w.heap.size, 10, none⟩ = some (.int .i64 t2) ∧ W.cell? ⟨w.heap.size, 11, none⟩ = some (.int .i64 t3) ∧ W.cell? ⟨w.heap.size, 12, none⟩ = some (.int .i64 t4) := by
 subst e0 e1 e2 e3 e4
 exact ⟨h.p 0, h.p 1, h.p 2, h.p 3, h.p 4, h.p 5, h.p 6, h.p 7, h.p 8, h.p 9, h.p 10, h.p 11, h.p 12⟩
theorem KV.all {T : TypeId} {w : World} {n : Int} {r : Rws} {c : Cf} {W : World} {t0 t1 t2 t3 t4 : Int} (h : KV T w n r c W) (e0 : t0 = c.tm.getD 0 0) (e1 : t1 = c.tm.getD 1 0) (e2 : t2 = c.tm.getD 2 0) (e3 : t3 = c.tm.getD 3 0) (e4 : t4 = c.tm.getD 4 0) : W.cell? ⟨w.heap.size, 0, none⟩ = some (.slice r.aN c.names.length r.cN) ∧ W.cell? ⟨w.heap.size, 1, none⟩ = some (.slice r.aL c.lnames.length r.cL) ∧ W.cell? ⟨w.heap.size, 2, none⟩ = some (.int .i64 n) ∧ W.cell? ⟨w.heap.size, 3, none⟩ = some (.slice r.aO c.ov.length r.cO) ∧ W.cell? ⟨w.heap.size, 4, none⟩ = some (.slice r.aK c.links.length r.cK) ∧ W.cell? ⟨w.heap.size, 5, none⟩ = some (.slice r.aP c.pfx.length r.cP) ∧ W.cell? ⟨w.heap.size, 6, none⟩ = some (.slice r.aQ c.pols.length r.cQ) ∧ W.cell? ⟨w.heap.size, 7, none⟩ = some (.slice r.aD c.dems.length r.cD) ∧ W.cell? ⟨w.heap.size, 8, none⟩ = some (.int .i64 t0) ∧ W.cell? ⟨w.heap.size, 9, none⟩ = some (.int .i64 t1) ∧ W.cell? ⟨w.heap.size, 10, none⟩ = some (.int .i64 t2) ∧ W.cell? ⟨w.heap.size, 11, none⟩ = some (.int .i64 t3) ∧ W.cell? ⟨w.heap.size, 12, none⟩ = some (.int .i64 t4) := by
 subst e0 e1 e2 e3 e4
 exact ⟨h.p 0, h.p 1, h.p 2, h.p 3, h.p 4, h.p 5, h.p 6, h.p 7, h.p 8, h.p 9, h.p 10, h.p 11, h.p 12⟩
theorem KV.start (T : TypeId) (w : World) (n : Int) (r : Rws) (c : Cf) (h : CAt w r c) : KV T w n r c ((w.alloc (.cells (cfCells n r c) T)).alloc (.cells #[.int .i64 n, .slice r.aO c.ov.length r.cO, .slice r.aK c.links.length r.cK] 27)) := ⟨(KC.start T w n r c h).up (below_box _ _), by have := heap_alloc_new (w.alloc (.cells (cfCells n r c) T)) (.cells #[.int .i64 n, .slice r.aO c.ov.length r.cO, .slice r.aK c.links.length r.cK] 27); simpa using this⟩
/-- The same beside the map of the names that were seen, and the row of all names. -/
structure KVM (w : World) (n : Int) (r : Rws) (c : Cf) (mb B : Nat) (v : Value) (l seen : List (List UInt8)) (W : World) : Prop where
 k : KV 33 w n r c W
 m : MapAt Tryz.prog 9 mb (seenL seen) W
 o : W.ownsRow B 9 1 v l.length (l.map strW)
 h1 : w.heap.size + 1 < mb
 h2 : mb < B
theorem KVM.see {w : World} {n : Int} {r : Rws} {c : Cf} {mb B : Nat} {v : Value} {l seen : List (List UInt8)} {W : World} (hc : CAt w r c) (h : KVM w n r c mb B v l seen W) (x : List UInt8) (hx : x.length ≤ 10000) (hm : x ∉ seen) : ∃ W', (Instr.mapUpdate 85 (.map (some mb)) (.string ⟨x.toArray⟩) (.bool true)).run Tryz.prog W = .ok () W' ∧ KVM w n r c mb B v l (seen ++ [x]) W' := by
 obtain ⟨W', h1, h2, h3⟩ := seen_store h.m x hx hm
 have e : ∀ k, k ≠ mb → k < W.heap.size → W'.heap[k]? = W.heap[k]? := fun k hk hl => h3.block k hl (fun e => hk (Option.some.inj e))
 have g1 := h.h1
 have g2 := h.h2
 refine ⟨W', h1, ⟨⟨h.k.k.grown hc h3 (by omega), (e _ (by omega) (lt_of_heap h.k.t)).trans h.k.t⟩, h2, ?_, g1, g2⟩⟩
 refine ⟨h.o.1, ?_⟩
 rcases h.o.2 with hn | ⟨g, cap, cur, hv, hb, hg, rest⟩
 ·exact .inl hn
 ·exact .inr ⟨g, cap, cur, hv, hb, (e g (by omega) (lt_of_heap hg)).trans hg, rest⟩
theorem idx5 (a b c d e : Int) (w : World) : (Instr.index 31 (.agg #[.int .i64 a, .int .i64 b, .int .i64 c, .int .i64 d, .int .i64 e]) (.int .i64 0)).run Tryz.prog w = .ok (.int .i64 a) w ∧ (Instr.index 31 (.agg #[.int .i64 a, .int .i64 b, .int .i64 c, .int .i64 d, .int .i64 e]) (.int .i64 1)).run Tryz.prog w = .ok (.int .i64 b) w ∧ (Instr.index 31 (.agg #[.int .i64 a, .int .i64 b, .int .i64 c, .int .i64 d, .int .i64 e]) (.int .i64 2)).run Tryz.prog w = .ok (.int .i64 c) w ∧ (Instr.index 31 (.agg #[.int .i64 a, .int .i64 b, .int .i64 c, .int .i64 d, .int .i64 e]) (.int .i64 3)).run Tryz.prog w = .ok (.int .i64 d) w ∧ (Instr.index 31 (.agg #[.int .i64 a, .int .i64 b, .int .i64 c, .int .i64 d, .int .i64 e]) (.int .i64 4)).run Tryz.prog w = .ok (.int .i64 e) w := ⟨by kernel_rfl, by kernel_rfl, by kernel_rfl, by kernel_rfl, by kernel_rfl⟩
set_option maxHeartbeats 16000000 in
set_option maxRecDepth 100000 in
theorem config_Valid (n : Int) (r : Rws) (c : Cf) (hL : VLim c) (w : World) (h : CAt w r c) : Calls Tryz.prog 7 #[.agg (cfCells n r c)] w fun e w' => e = .returned (.bool (cfgB n c)) ∧ Below w.heap.size w w' := by
 obtain ⟨V, hV⟩ : ∃ V, V = cfgB n c := ⟨_, rfl⟩
 rw [← hV]
 obtain ⟨vT, hvT⟩ : ∃ b, b = valid (topOf n c) := ⟨_, rfl⟩
 obtain ⟨bT, hbT⟩ : ∃ b, b = decide (true ∈ c.ov) := ⟨_, rfl⟩
 obtain ⟨ol, hol⟩ : ∃ m, m = c.ov.length := ⟨_, rfl⟩
 have HV : Hid (V = ((vT && (decide (ol = 0) || bT)) && (decide ((c.names.length : Int) = n) && (decide (c.lnames.length = c.links.length) && (namesB (c.names ++ c.lnames) && (tmB c && (prefsB n c.pfx && (polsB n c.links.length c.pols && demsB n c.dems)))))))) := Lib.hid (by rw [hV, hvT, hbT, hol]; rfl)
 have HVT := Lib.hid hvT
 have HL := Lib.hid hL
 have HCW := Lib.hid h
 have HK := Lib.hid (KV.start 33 w n r c h)
 have HTV : Hid (∀ W, KV 33 w n r c W → Calls Tryz.prog 20 #[.agg #[.int .i64 n, .slice r.aO ol r.cO, .slice r.aK c.links.length r.cK]] W fun e W' => e = .returned (.bool vT) ∧ KV 33 w n r c W') := Lib.hid fun W hW => by rw [hvT, hol]; exact (topology_Valid (topOf n c) r.aO r.aK r.cO r.cK W hW.k.c1.k).mono (by rintro e w9 ⟨rfl, hb⟩; exact ⟨rfl, hW.up hb⟩)
 have HSC : Hid (vT = true → ∀ W, KV 33 w n r c W → Calls Tryz.prog 13 #[.slice r.aO ol r.cO, .bool true] W fun e W' => e = .returned (.bool bT) ∧ KV 33 w n r c W') := Lib.hid fun hv W hW => by rw [hbT, hol]; exact (slices_ContainsB r.aO r.cO c.ov W hW.k.c1.o (by have h9 : c.ov.length ≤ 64 := valid_ov64 (t := topOf n c) (hvT.symm.trans hv); omega)).mono (by rintro e w9 ⟨rfl, rfl⟩; exact ⟨rfl, hW⟩)
 have p2 : (w.alloc (.cells (cfCells n r c) 33)).cell? ⟨w.heap.size, 2, none⟩ = some (.int .i64 n) := Lib.cell_of_heap (heap_alloc_new w _) 2
 have p3 : (w.alloc (.cells (cfCells n r c) 33)).cell? ⟨w.heap.size, 3, none⟩ = some (.slice r.aO c.ov.length r.cO) := Lib.cell_of_heap (heap_alloc_new w _) 3
 have p4 : (w.alloc (.cells (cfCells n r c) 33)).cell? ⟨w.heap.size, 4, none⟩ = some (.slice r.aK c.links.length r.cK) := Lib.cell_of_heap (heap_alloc_new w _) 4
 have hmm := @run_makeMap Tryz.prog
 clear hV hvT hbT hL h
 go_enter Tryz.func7, Tryz.ntmps7
 go_upto_region 2 with fail
 obtain ⟨W2, hW2⟩ : ∃ W, W = ((w.alloc (.cells (cfCells n r c) 33)).alloc (.cells #[.int .i64 n, .slice r.aO c.ov.length r.cO, .slice r.aK c.links.length r.cK] 27)) := ⟨_, rfl⟩
 rw [← hW2] at HK ⊢
 clear hW2 p2 p3 p4
 go_cut [25] from 11 to 25 (fun x wx => x = .bool (!(vT && (decide (ol = 0) || bT))) ∧ Hid (KV 33 w n r c wx))
 case first =>
  have q0 : W2.cell? ⟨w.heap.size + 1, 0, none⟩ = some (.int .i64 n) := HK.out.q 0
  have q1 : W2.cell? ⟨w.heap.size + 1, 1, none⟩ = some (.slice r.aO c.ov.length r.cO) := HK.out.q 1
  rw [← hol] at q1
  have q2 : W2.cell? ⟨w.heap.size + 1, 2, none⟩ = some (.slice r.aK c.links.length r.cK) := HK.out.q 2
  have HOL : Hid (c.ov.length = ol) := Lib.hid hol.symm
  clear hol
  cases vT with
  | false =>
   go_wp2_with (first | (go_at_call 20; (with_reducible refine (HTV.out _ HK.out).mono ?_); rintro e w5 ⟨rfl, hk5⟩; replace HK := Lib.hid hk5; have q0 : w5.cell? ⟨w.heap.size + 1, 0, none⟩ = some (.int .i64 n) := hk5.q 0; have q1 : w5.cell? ⟨w.heap.size + 1, 1, none⟩ = some (.slice r.aO c.ov.length r.cO) := hk5.q 1; rw [HOL.out] at q1; have q2 : w5.cell? ⟨w.heap.size + 1, 2, none⟩ = some (.slice r.aK c.links.length r.cK) := hk5.q 2; clear hk5) | (go_at_call 13; (with_reducible refine (HSC2.out _ HK.out).mono ?_); rintro e w6 ⟨rfl, hk6⟩; replace HK := Lib.hid hk6; clear hk6))
   go_meet
   exact ⟨rfl, HK⟩
  | true =>
   have HSC2 := Lib.hid (HSC.out rfl)
   by_cases h0 : ol = 0
   ·subst h0
    go_wp2_with (first | (go_at_call 20; (with_reducible refine (HTV.out _ HK.out).mono ?_); rintro e w5 ⟨rfl, hk5⟩; replace HK := Lib.hid hk5; have q0 : w5.cell? ⟨w.heap.size + 1, 0, none⟩ = some (.int .i64 n) := hk5.q 0; have q1 : w5.cell? ⟨w.heap.size + 1, 1, none⟩ = some (.slice r.aO c.ov.length r.cO) := hk5.q 1; rw [HOL.out] at q1; have q2 : w5.cell? ⟨w.heap.size + 1, 2, none⟩ = some (.slice r.aK c.links.length r.cK) := hk5.q 2; clear hk5) | (go_at_call 13; (with_reducible refine (HSC2.out _ HK.out).mono ?_); rintro e w6 ⟨rfl, hk6⟩; replace HK := Lib.hid hk6; clear hk6))
    go_meet
    exact ⟨rfl, HK⟩
   ·have h1 : (0 : Int) < (ol : Int) := by omega
    have H2 : Hid (decide (ol = 0) = false) := Lib.hid (decide_eq_false h0)
    clear h0
    cases bT with
    | false =>
     go_wp2_with (first | (go_at_call 20; (with_reducible refine (HTV.out _ HK.out).mono ?_); rintro e w5 ⟨rfl, hk5⟩; replace HK := Lib.hid hk5; have q0 : w5.cell? ⟨w.heap.size + 1, 0, none⟩ = some (.int .i64 n) := hk5.q 0; have q1 : w5.cell? ⟨w.heap.size + 1, 1, none⟩ = some (.slice r.aO c.ov.length r.cO) := hk5.q 1; rw [HOL.out] at q1; have q2 : w5.cell? ⟨w.heap.size + 1, 2, none⟩ = some (.slice r.aK c.links.length r.cK) := hk5.q 2; clear hk5) | (go_at_call 13; (with_reducible refine (HSC2.out _ HK.out).mono ?_); rintro e w6 ⟨rfl, hk6⟩; replace HK := Lib.hid hk6; clear hk6))
     go_meet
     exact ⟨by rw [H2.out]; rfl, HK⟩
    | true =>
     go_wp2_with (first | (go_at_call 20; (with_reducible refine (HTV.out _ HK.out).mono ?_); rintro e w5 ⟨rfl, hk5⟩; replace HK := Lib.hid hk5; have q0 : w5.cell? ⟨w.heap.size + 1, 0, none⟩ = some (.int .i64 n) := hk5.q 0; have q1 : w5.cell? ⟨w.heap.size + 1, 1, none⟩ = some (.slice r.aO c.ov.length r.cO) := hk5.q 1; rw [HOL.out] at q1; have q2 : w5.cell? ⟨w.heap.size + 1, 2, none⟩ = some (.slice r.aK c.links.length r.cK) := hk5.q 2; clear hk5) | (go_at_call 13; (with_reducible refine (HSC2.out _ HK.out).mono ?_); rintro e w6 ⟨rfl, hk6⟩; replace HK := Lib.hid hk6; clear hk6))
     go_meet
     exact ⟨by rw [H2.out]; rfl, HK⟩
 case rest =>
  obtain ⟨rfl, HK⟩ := hcut
  have HQ : Hid ((vT && (decide (ol = 0) || bT)) = true → vT = true) := Lib.hid (by cases vT <;> simp)
  generalize (vT && (decide (ol = 0) || bT)) = qa at *
  clear hol HTV HSC
  cases qa with
  | false =>
   have HVF : Hid (V = false) := Lib.hid (HV.out.trans (by simp))
   simp only [Bool.not_false]
   go_wp2_with fail
   go_ret
   exact ⟨by rw [HVF.out]; rfl, HK.out.k.hb⟩
  | true =>
   have hval := HVT.out.symm.trans (HQ.out rfl)
   have hn : 1 ≤ n ∧ n ≤ 64 ∧ c.links.length ≤ 256 := by
    by_cases h1 : 1 ≤ (topOf n c).n ∧ (topOf n c).n ≤ 64
    ·by_cases h2 : (topOf n c).ls.length ≤ 256
     ·exact ⟨h1.1, h1.2, h2⟩
     ·rw [bad2 h2] at hval; cases hval
    ·rw [bad1 h1] at hval; cases hval
   obtain ⟨hn1, hn2, hlk⟩ := hn
   obtain ⟨t0, ht0⟩ : ∃ t, t = c.tm.getD 0 0 := ⟨_, rfl⟩
   have HTM0 := Lib.hid ht0
   clear ht0
   obtain ⟨t1, ht1⟩ : ∃ t, t = c.tm.getD 1 0 := ⟨_, rfl⟩
   have HTM1 := Lib.hid ht1
   clear ht1
   obtain ⟨t2, ht2⟩ : ∃ t, t = c.tm.getD 2 0 := ⟨_, rfl⟩
   have HTM2 := Lib.hid ht2
   clear ht2
   obtain ⟨t3, ht3⟩ : ∃ t, t = c.tm.getD 3 0 := ⟨_, rfl⟩
   have HTM3 := Lib.hid ht3
   clear ht3
   obtain ⟨t4, ht4⟩ : ∃ t, t = c.tm.getD 4 0 := ⟨_, rfl⟩
   have HTM4 := Lib.hid ht4
   clear ht4
   have HVP : Hid (∀ b, prefsB n c.pfx = b → ∀ W, KV 33 w n r c W → Calls Tryz.prog 24 #[.agg #[.slice r.aN c.names.length r.cN, .slice r.aL c.lnames.length r.cL, .int .i64 n, .slice r.aO c.ov.length r.cO, .slice r.aK c.links.length r.cK, .slice r.aP c.pfx.length r.cP, .slice r.aQ c.pols.length r.cQ, .slice r.aD c.dems.length r.cD, .int .i64 t0, .int .i64 t1, .int .i64 t2, .int .i64 t3, .int .i64 t4]] W fun e W' => e = .returned (.bool b) ∧ KV 33 w n r c W') := Lib.hid fun b hb W hW => by rw [← hb, HTM0.out, HTM1.out, HTM2.out, HTM3.out, HTM4.out]; exact (cfg_validPrefixes n r c hn1 hn2 HL.out.p HL.out.pi W hW.k.c1).mono (by rintro e w9 ⟨rfl, hb9⟩; exact ⟨rfl, hW.up hb9⟩)
   have HVQ : Hid (∀ b, polsB n c.links.length c.pols = b → ∀ W, KV 33 w n r c W → Calls Tryz.prog 25 #[.agg #[.slice r.aN c.names.length r.cN, .slice r.aL c.lnames.length r.cL, .int .i64 n, .slice r.aO c.ov.length r.cO, .slice r.aK c.links.length r.cK, .slice r.aP c.pfx.length r.cP, .slice r.aQ c.pols.length r.cQ, .slice r.aD c.dems.length r.cD, .int .i64 t0, .int .i64 t1, .int .i64 t2, .int .i64 t3, .int .i64 t4]] W fun e W' => e = .returned (.bool b) ∧ KV 33 w n r c W') := Lib.hid fun b hb W hW => by rw [← hb, HTM0.out, HTM1.out, HTM2.out, HTM3.out, HTM4.out]; exact (cfg_validPolicies n r c hn1 hn2 hlk HL.out.q HL.out.qi W hW.k.c1).mono (by rintro e w9 ⟨rfl, hb9⟩; exact ⟨rfl, hW.up hb9⟩)
   have HVD : Hid (∀ b, demsB n c.dems = b → ∀ W, KV 33 w n r c W → Calls Tryz.prog 26 #[.agg #[.slice r.aN c.names.length r.cN, .slice r.aL c.lnames.length r.cL, .int .i64 n, .slice r.aO c.ov.length r.cO, .slice r.aK c.links.length r.cK, .slice r.aP c.pfx.length r.cP, .slice r.aQ c.pols.length r.cQ, .slice r.aD c.dems.length r.cD, .int .i64 t0, .int .i64 t1, .int .i64 t2, .int .i64 t3, .int .i64 t4]] W fun e W' => e = .returned (.bool b) ∧ KV 33 w n r c W') := Lib.hid fun b hb W hW => by rw [← hb, HTM0.out, HTM1.out, HTM2.out, HTM3.out, HTM4.out]; exact (cfg_validDemands n r c hn1 hn2 HL.out.d W hW.k.c1).mono (by rintro e w9 ⟨rfl, hb9⟩; exact ⟨rfl, hW.up hb9⟩)
   clear hval HVT HQ hn1
   simp only [Bool.not_true]
   have p0 : wc.cell? ⟨w.heap.size, 0, none⟩ = some (.slice r.aN c.names.length r.cN) := HK.out.p 0
   have p1 : wc.cell? ⟨w.heap.size, 1, none⟩ = some (.slice r.aL c.lnames.length r.cL) := HK.out.p 1
   have q0 : wc.cell? ⟨w.heap.size + 1, 0, none⟩ = some (.int .i64 n) := HK.out.q 0
   have q2 : wc.cell? ⟨w.heap.size + 1, 2, none⟩ = some (.slice r.aK c.links.length r.cK) := HK.out.q 2
   obtain ⟨g3, z3⟩ : ∃ q, ((c.names.length : Int) != n) = q := ⟨_, rfl⟩
   obtain ⟨g4, z4⟩ : ∃ q, ((c.lnames.length : Int) != (c.links.length : Int)) = q := ⟨_, rfl⟩
   have HZ3 := Lib.hid z3
   have HZ4 := Lib.hid z4
   have HNK := Lib.hid (And.intro hn2 hlk)
   have HV2 : Hid (V = (!g3 && (!g4 && (namesB (c.names ++ c.lnames) && (tmB c && (prefsB n c.pfx && (polsB n c.links.length c.pols && demsB n c.dems))))))) := Lib.hid (by
    have e3 : decide ((c.names.length : Int) = n) = !g3 := by rw [← z3, bne, Bool.not_not]; rfl
    have e4 : decide (c.lnames.length = c.links.length) = !g4 := by rw [← z4, bne, Bool.not_not, Bool.eq_iff_iff, decide_eq_true_eq, beq_iff_eq]; omega
    rw [HV.out, e3, e4]; rfl)
   clear HV hn2 hlk
   cases g3 with
   | true =>
    have HVF : Hid (V = false) := Lib.hid (HV2.out.trans (by simp))
    go_wp2_with fail
    go_ret
    exact ⟨by rw [HVF.out]; rfl, HK.out.k.hb⟩
   | false =>
    cases g4 with
    | true =>
     have HVF : Hid (V = false) := Lib.hid (HV2.out.trans (by simp))
     go_wp2_with fail
     go_ret
     exact ⟨by rw [HVF.out]; rfl, HK.out.k.hb⟩
    | false =>
     have HV3 : Hid (V = (namesB (c.names ++ c.lnames) && (tmB c && (prefsB n c.pfx && (polsB n c.links.length c.pols && demsB n c.dems))))) := Lib.hid (HV2.out.trans rfl)
     obtain ⟨l, hl⟩ : ∃ l, l = c.names ++ c.lnames := ⟨_, rfl⟩
     have HNL : Hid (c.names.length ≤ 64 ∧ c.lnames.length ≤ 256) := Lib.hid (by have e1 := HZ3.out; have e2 := HZ4.out; rw [bne_eq_false_iff_eq] at e1 e2; have e3 := HNK.out; omega)
     have hll : l.length ≤ 100000 := by rw [hl, List.length_append]; have := HNL.out; omega
     have HLE := Lib.hid hl
     clear HV2 hl
     have HMB : Hid (w.heap.size + 1 < wc.heap.size) := Lib.hid (lt_of_heap HK.out.t)
     have HM0 : Hid (MapAt Tryz.prog 9 wc.heap.size (seenL []) (wc.alloc (.map #[] 0))) := Lib.hid (MapAt.made Tryz.prog 9 wc)
     have HK1 := Lib.hid (HK.out.up (below_box wc (.map #[] 0)))
     have p0m : (wc.alloc (.map #[] 0)).cell? ⟨w.heap.size, 0, none⟩ = some (.slice r.aN c.names.length r.cN) := HK1.out.p 0
     have p1m : (wc.alloc (.map #[] 0)).cell? ⟨w.heap.size, 1, none⟩ = some (.slice r.aL c.lnames.length r.cL) := HK1.out.p 1
     have HCC : Hid (∀ W B, W.cell? ⟨B, 0, none⟩ = some (.slice r.aN c.names.length r.cN) → W.cell? ⟨B, 1, none⟩ = some (.slice r.aL c.lnames.length r.cL) → KV 33 w n r c W → Calls Tryz.prog 21 #[.slice (some ⟨B, 0, none⟩) 2 2] W fun e W' => ∃ v, e = .returned v ∧ W'.ownsRow W.heap.size 9 1 v l.length (l.map strW) ∧ Below W.heap.size W W') := Lib.hid fun W B e0 e1 hW => by rw [HLE.out]; exact slices_Concat2 B r.aN r.aL r.cN r.cL c.names c.lnames W e0 e1 hW.k.c1.n hW.k.c1.l (by have := HNL.out; omega) (by have := HNL.out; omega)
     clear HK
     go_wp2_with (go_at_call 21; refine (HCC.out _ _ ?e0 ?e1 (HK1.out.up (below_box _ _))).mono ?_; (case e0 => simp); (case e1 => simp); rintro e w5 ⟨v5, rfl, ho5, hb5⟩; have HK5 := Lib.hid ((HK1.out.up (below_box _ _)).up hb5); have HM5 := Lib.hid ((HM0.out.kept ((below_box _ _).block _ HM0.out.lt)).kept (hb5.block _ (Nat.lt_trans HM0.out.lt (by simp)))); obtain ⟨A5, c5, rfl, hn5, hm5, hr5⟩ := rd_of_own ho5; have HO5 := Lib.hid ho5; unfold maxLen at hm5; clear ho5 hb5 hr5)
     obtain ⟨mb, hmb⟩ : ∃ b, b = wc.heap.size := ⟨_, rfl⟩
     obtain ⟨B, hB⟩ : ∃ b, b = ((wc.alloc (.map #[] 0)).alloc (.cells #[.slice r.aN c.names.length r.cN, .slice r.aL c.lnames.length r.cL] 23)).heap.size := ⟨_, rfl⟩
     have hmB : mb < B := by rw [hmb, hB]; simp; omega
     rw [← hB] at HO5
     rw [← hmb] at HM5 HMB ⊢
     have HKM : Hid (KVM w n r c mb B (.slice A5 l.length c5) l [] w5) := Lib.hid ⟨HK5.out, HM5.out, HO5.out, HMB.out, hmB⟩
     clear hmB hB HO5 HM5 HK5 HM0 HK1 p0m p1m HCC hmm
     have HV4 : Hid (V = (nmK (l.take 0) (l.drop 0) && (tmB c && (prefsB n c.pfx && (polsB n c.links.length c.pols && demsB n c.dems))))) := Lib.hid (by rw [HV3.out, ← HLE.out]; rfl)
     clear HV3 HLE p0 p1 q0 q2 hmb
     go_loopw [49] (fun i wr => ∃ k : Nat, k ≤ l.length ∧ i = .int .i64 k ∧ Hid (V = (nmK (l.take k) (l.drop k) && (tmB c && (prefsB n c.pfx && (polsB n c.links.length c.pols && demsB n c.dems))))) ∧ Hid (KVM w n r c mb B (.slice A5 l.length c5) l (l.take k) wr)) (fun i _ => l.length - (intOf i).toNat)
     case atStart => exact ⟨0, Nat.zero_le _, rfl, HV4, HKM⟩
     case round =>
      clear HV4 HKM
      obtain ⟨k, hk, rfl, HD, HKM⟩ := hrel
      by_cases hlt : k < l.length
      ·obtain ⟨_, _, hAv, _, _, hrd⟩ := rd_of_own HKM.out.o
       injection hAv with hAv1 _ hAv2
       subst hAv1 hAv2
       obtain ⟨b, o, h1, d0⟩ := hrd.at_ (k := k) (u := strW l[k]) (by simp [List.getElem?_eq_getElem hlt])
       have HST := Lib.hid (HD.out.trans (by rw [nmK_step hlt]))
       have HTK := Lib.hid (List.take_succ_eq_append_getElem hlt)
       clear hrd HD
       subst h1
       generalize l[k] = y at d0 HST HTK
       unfold strW at d0
       obtain ⟨T, hT⟩ : ∃ T, T = l.take k := ⟨_, rfl⟩
       rw [← hT] at HST HKM HTK
       have HT := Lib.hid hT
       obtain ⟨g1, y1⟩ : ∃ q, namedB y = q := ⟨_, rfl⟩
       obtain ⟨g2, y2⟩ : ∃ q, decide (y ∈ T) = q := ⟨_, rfl⟩
       have HNM : Hid (∀ W, Calls Tryz.prog 22 #[.string ⟨y.toArray⟩] W fun e W' => e = .returned (.bool g1) ∧ W = W') := Lib.hid fun W => by rw [← y1]; exact cfg_named_any y W
       have HD : Hid (V = ((g1 && (!g2 && nmK (l.take (k + 1)) (l.drop (k + 1)))) && (tmB c && (prefsB n c.pfx && (polsB n c.links.length c.pols && demsB n c.dems))))) := Lib.hid (by rw [HST.out, y1, y2])
       have HY1 : Hid (g1 = true → y.length ≤ 10000) := Lib.hid (fun h => by rw [h] at y1; by_cases hl : 16 < y.length; (· rw [named_long hl] at y1; cases y1); (· omega))
       have HY2 := Lib.hid y2
       clear y1 y2 HST hT
       cases g1 with
       | false =>
        have HVF : Hid (V = false) := Lib.hid (HD.out.trans (by simp))
        go_wp2_with (go_at_call 22; (with_reducible refine (HNM.out _).mono ?_); rintro e w6 ⟨rfl, rfl⟩)
        go_ret
        exact ⟨by rw [HVF.out]; rfl, HKM.out.k.k.hb⟩
       | true =>
        have hxl := HY1.out rfl
        have hlk := seen_look HKM.out.m y hxl
        rw [HY2.out] at hlk
        cases g2 with
        | true =>
         have HVF : Hid (V = false) := Lib.hid (HD.out.trans (by simp))
         go_wp2_with (go_at_call 22; (with_reducible refine (HNM.out _).mono ?_); rintro e w6 ⟨rfl, rfl⟩)
         go_ret
         exact ⟨by rw [HVF.out]; rfl, HKM.out.k.k.hb⟩
        | false =>
         obtain ⟨W3, hup, hk3⟩ := HKM.out.see HCW.out y hxl (of_decide_eq_false HY2.out)
         replace HKM := Lib.hid hk3
         clear hk3
         go_wp2_with (go_at_call 22; (with_reducible refine (HNM.out _).mono ?_); rintro e w6 ⟨rfl, rfl⟩)
         go_roundw
         case rel => exact ⟨k + 1, by omega, by go_num, Lib.hid (HD.out.trans (by simp)), Lib.hid (by rw [HTK.out]; exact HKM.out)⟩
         case measure => simp [intOf]; omega
      ·obtain rfl : k = l.length := by omega
       have HK := Lib.hid HKM.out.k
       have HV5 : Hid (V = (tmB c && (prefsB n c.pfx && (polsB n c.links.length c.pols && demsB n c.dems)))) := Lib.hid (HD.out.trans (by simp [nmK]))
       clear HD HKM
       have p8 : wr.cell? ⟨w.heap.size, 8, none⟩ = some (.int .i64 (c.tm.getD 0 0)) := HK.out.p 8
       have p9 : wr.cell? ⟨w.heap.size, 9, none⟩ = some (.int .i64 (c.tm.getD 1 0)) := HK.out.p 9
       have p10 : wr.cell? ⟨w.heap.size, 10, none⟩ = some (.int .i64 (c.tm.getD 2 0)) := HK.out.p 10
       have p11 : wr.cell? ⟨w.heap.size, 11, none⟩ = some (.int .i64 (c.tm.getD 3 0)) := HK.out.p 11
       have p12 : wr.cell? ⟨w.heap.size, 12, none⟩ = some (.int .i64 (c.tm.getD 4 0)) := HK.out.p 12
       obtain ⟨REST, hRE⟩ : ∃ b, b = (prefsB n c.pfx && (polsB n c.links.length c.pols && demsB n c.dems)) := ⟨_, rfl⟩
       rw [← hRE] at HV5
       have HRE := Lib.hid hRE
       unfold tmB at HV5
       rw [← HTM0.out, ← HTM1.out, ← HTM2.out, ← HTM3.out, ← HTM4.out] at HV5
       rw [← HTM0.out] at p8
       rw [← HTM1.out] at p9
       rw [← HTM2.out] at p10
       rw [← HTM3.out] at p11
       rw [← HTM4.out] at p12
       clear hRE
       obtain ⟨m0, zm0⟩ : ∃ q, wB t0 1 65536 = q := ⟨_, rfl⟩
       obtain ⟨m1, zm1⟩ : ∃ q, wB t1 1 65536 = q := ⟨_, rfl⟩
       obtain ⟨m2, zm2⟩ : ∃ q, wB t2 1 65536 = q := ⟨_, rfl⟩
       obtain ⟨m3, zm3⟩ : ∃ q, wB t3 1 65536 = q := ⟨_, rfl⟩
       obtain ⟨m4, zm4⟩ : ∃ q, wB t4 1 65536 = q := ⟨_, rfl⟩
       rw [zm0, zm1, zm2, zm3, zm4] at HV5
       have HW0 : Hid (∀ W, Calls Tryz.prog 23 #[.int .i64 t0, .int .i64 1, .int .i64 65536] W fun e W' => e = .returned (.bool m0) ∧ W = W') := Lib.hid fun W => by rw [← zm0]; exact cfg_withinB _ _ _ W
       have HW1 : Hid (∀ W, Calls Tryz.prog 23 #[.int .i64 t1, .int .i64 1, .int .i64 65536] W fun e W' => e = .returned (.bool m1) ∧ W = W') := Lib.hid fun W => by rw [← zm1]; exact cfg_withinB _ _ _ W
       have HW2 : Hid (∀ W, Calls Tryz.prog 23 #[.int .i64 t2, .int .i64 1, .int .i64 65536] W fun e W' => e = .returned (.bool m2) ∧ W = W') := Lib.hid fun W => by rw [← zm2]; exact cfg_withinB _ _ _ W
       have HW3 : Hid (∀ W, Calls Tryz.prog 23 #[.int .i64 t3, .int .i64 1, .int .i64 65536] W fun e W' => e = .returned (.bool m3) ∧ W = W') := Lib.hid fun W => by rw [← zm3]; exact cfg_withinB _ _ _ W
       have HW4 : Hid (∀ W, Calls Tryz.prog 23 #[.int .i64 t4, .int .i64 1, .int .i64 65536] W fun e W' => e = .returned (.bool m4) ∧ W = W') := Lib.hid fun W => by rw [← zm4]; exact cfg_withinB _ _ _ W
       clear zm0 zm1 zm2 zm3 zm4
       go_wp2_with fail
       clear p8 p9 p10 p11 p12
       go_loopw [66] (fun i wx => ∃ k : Nat, i = .int .i64 k ∧ ((k = 0 ∧ V = (m0 && (m1 && (m2 && (m3 && m4))) && REST)) ∨ (k = 1 ∧ V = ((m1 && (m2 && (m3 && m4))) && REST)) ∨ (k = 2 ∧ V = ((m2 && (m3 && m4)) && REST)) ∨ (k = 3 ∧ V = ((m3 && m4) && REST)) ∨ (k = 4 ∧ V = (m4 && REST)) ∨ (k = 5 ∧ V = REST)) ∧ Hid (KV 33 w n r c wx)) (fun i _ => 5 - (intOf i).toNat)
       case atStart => exact ⟨0, rfl, .inl ⟨rfl, HV5.out⟩, HK⟩
       case round =>
        clear HV5 HK
        obtain ⟨k, rfl, HI, HK⟩ := hrel
        rcases HI with ⟨rfl, hv⟩ | ⟨rfl, hv⟩ | ⟨rfl, hv⟩ | ⟨rfl, hv⟩ | ⟨rfl, hv⟩ | ⟨rfl, hv⟩
        ·have HD := Lib.hid hv
         clear hv
         have hix := fun W => (idx5 t0 t1 t2 t3 t4 W).1
         cases m0 with
         | false =>
          have HVF : Hid (V = false) := Lib.hid (HD.out.trans (by simp))
          go_wp2_with (go_at_call 23; (with_reducible refine (HW0.out _).mono ?_); rintro e w8 ⟨rfl, rfl⟩)
          go_ret
          exact ⟨by rw [HVF.out]; rfl, HK.out.k.hb⟩
         | true =>
          go_wp2_with (go_at_call 23; (with_reducible refine (HW0.out _).mono ?_); rintro e w8 ⟨rfl, rfl⟩)
          go_roundw
          case rel => exact ⟨1, by go_num, .inr (.inl ⟨rfl, HD.out.trans (by simp)⟩), HK⟩
          case measure => simp [intOf]
        ·have HD := Lib.hid hv
         clear hv
         have hix := fun W => (idx5 t0 t1 t2 t3 t4 W).2.1
         cases m1 with
         | false =>
          have HVF : Hid (V = false) := Lib.hid (HD.out.trans (by simp))
          go_wp2_with (go_at_call 23; (with_reducible refine (HW1.out _).mono ?_); rintro e w8 ⟨rfl, rfl⟩)
          go_ret
          exact ⟨by rw [HVF.out]; rfl, HK.out.k.hb⟩
         | true =>
          go_wp2_with (go_at_call 23; (with_reducible refine (HW1.out _).mono ?_); rintro e w8 ⟨rfl, rfl⟩)
          go_roundw
          case rel => exact ⟨2, by go_num, .inr (.inr (.inl ⟨rfl, HD.out.trans (by simp)⟩)), HK⟩
          case measure => simp [intOf]
        ·have HD := Lib.hid hv
         clear hv
         have hix := fun W => (idx5 t0 t1 t2 t3 t4 W).2.2.1
         cases m2 with
         | false =>
          have HVF : Hid (V = false) := Lib.hid (HD.out.trans (by simp))
          go_wp2_with (go_at_call 23; (with_reducible refine (HW2.out _).mono ?_); rintro e w8 ⟨rfl, rfl⟩)
          go_ret
          exact ⟨by rw [HVF.out]; rfl, HK.out.k.hb⟩
         | true =>
          go_wp2_with (go_at_call 23; (with_reducible refine (HW2.out _).mono ?_); rintro e w8 ⟨rfl, rfl⟩)
          go_roundw
          case rel => exact ⟨3, by go_num, .inr (.inr (.inr (.inl ⟨rfl, HD.out.trans (by simp)⟩))), HK⟩
          case measure => simp [intOf]
        ·have HD := Lib.hid hv
         clear hv
         have hix := fun W => (idx5 t0 t1 t2 t3 t4 W).2.2.2.1
         cases m3 with
         | false =>
          have HVF : Hid (V = false) := Lib.hid (HD.out.trans (by simp))
          go_wp2_with (go_at_call 23; (with_reducible refine (HW3.out _).mono ?_); rintro e w8 ⟨rfl, rfl⟩)
          go_ret
          exact ⟨by rw [HVF.out]; rfl, HK.out.k.hb⟩
         | true =>
          go_wp2_with (go_at_call 23; (with_reducible refine (HW3.out _).mono ?_); rintro e w8 ⟨rfl, rfl⟩)
          go_roundw
          case rel => exact ⟨4, by go_num, .inr (.inr (.inr (.inr (.inl ⟨rfl, HD.out.trans (by simp)⟩)))), HK⟩
          case measure => simp [intOf]
        ·have HD := Lib.hid hv
         clear hv
         have hix := fun W => (idx5 t0 t1 t2 t3 t4 W).2.2.2.2
         cases m4 with
         | false =>
          have HVF : Hid (V = false) := Lib.hid (HD.out.trans (by simp))
          go_wp2_with (go_at_call 23; (with_reducible refine (HW4.out _).mono ?_); rintro e w8 ⟨rfl, rfl⟩)
          go_ret
          exact ⟨by rw [HVF.out]; rfl, HK.out.k.hb⟩
         | true =>
          go_wp2_with (go_at_call 23; (with_reducible refine (HW4.out _).mono ?_); rintro e w8 ⟨rfl, rfl⟩)
          go_roundw
          case rel => exact ⟨5, by go_num, .inr (.inr (.inr (.inr (.inr ⟨rfl, HD.out.trans (by simp)⟩)))), HK⟩
          case measure => simp [intOf]
        ·have HD := Lib.hid (hv.trans HRE.out)
         clear hv HRE
         obtain ⟨b1, zb1⟩ : ∃ b, prefsB n c.pfx = b := ⟨_, rfl⟩
         have HVP2 := Lib.hid (HVP.out _ zb1)
         obtain ⟨b2, zb2⟩ : ∃ b, polsB n c.links.length c.pols = b := ⟨_, rfl⟩
         have HVQ2 := Lib.hid (HVQ.out _ zb2)
         obtain ⟨b3, zb3⟩ : ∃ b, demsB n c.dems = b := ⟨_, rfl⟩
         have HVD2 := Lib.hid (HVD.out _ zb3)
         rw [zb1, zb2, zb3] at HD
         clear zb1 zb2 zb3 HVP HVQ HVD
         obtain ⟨p0, p1, p2, p3, p4, p5, p6, p7, p8, p9, p10, p11, p12⟩ := HK.out.all HTM0.out HTM1.out HTM2.out HTM3.out HTM4.out
         cases b1 with
         | false =>
          have HVF : Hid (V = false) := Lib.hid (HD.out.trans (by simp))
          go_wp2_with (first | (go_at_call 24; (with_reducible refine (HVP2.out _ HK.out).mono ?_); rintro e w11 ⟨rfl, hk7⟩; replace HK := Lib.hid hk7; obtain ⟨p0, p1, p2, p3, p4, p5, p6, p7, p8, p9, p10, p11, p12⟩ := hk7.all HTM0.out HTM1.out HTM2.out HTM3.out HTM4.out; clear hk7) | (go_at_call 25; (with_reducible refine (HVQ2.out _ HK.out).mono ?_); rintro e w12 ⟨rfl, hk7⟩; replace HK := Lib.hid hk7; obtain ⟨p0, p1, p2, p3, p4, p5, p6, p7, p8, p9, p10, p11, p12⟩ := hk7.all HTM0.out HTM1.out HTM2.out HTM3.out HTM4.out; clear hk7) | (go_at_call 26; (with_reducible refine (HVD2.out _ HK.out).mono ?_); rintro e w13 ⟨rfl, hk7⟩; replace HK := Lib.hid hk7; obtain ⟨p0, p1, p2, p3, p4, p5, p6, p7, p8, p9, p10, p11, p12⟩ := hk7.all HTM0.out HTM1.out HTM2.out HTM3.out HTM4.out; clear hk7))
          go_ret
          exact ⟨by rw [HVF.out]; rfl, HK.out.k.hb⟩
         | true =>
          cases b2 with
          | false =>
           have HVF : Hid (V = false) := Lib.hid (HD.out.trans (by simp))
           go_wp2_with (first | (go_at_call 24; (with_reducible refine (HVP2.out _ HK.out).mono ?_); rintro e w11 ⟨rfl, hk7⟩; replace HK := Lib.hid hk7; obtain ⟨p0, p1, p2, p3, p4, p5, p6, p7, p8, p9, p10, p11, p12⟩ := hk7.all HTM0.out HTM1.out HTM2.out HTM3.out HTM4.out; clear hk7) | (go_at_call 25; (with_reducible refine (HVQ2.out _ HK.out).mono ?_); rintro e w12 ⟨rfl, hk7⟩; replace HK := Lib.hid hk7; obtain ⟨p0, p1, p2, p3, p4, p5, p6, p7, p8, p9, p10, p11, p12⟩ := hk7.all HTM0.out HTM1.out HTM2.out HTM3.out HTM4.out; clear hk7) | (go_at_call 26; (with_reducible refine (HVD2.out _ HK.out).mono ?_); rintro e w13 ⟨rfl, hk7⟩; replace HK := Lib.hid hk7; obtain ⟨p0, p1, p2, p3, p4, p5, p6, p7, p8, p9, p10, p11, p12⟩ := hk7.all HTM0.out HTM1.out HTM2.out HTM3.out HTM4.out; clear hk7))
           go_ret
           exact ⟨by rw [HVF.out]; rfl, HK.out.k.hb⟩
          | true =>
           have HVF : Hid (V = b3) := Lib.hid (HD.out.trans (by simp))
           go_wp2_with (first | (go_at_call 24; (with_reducible refine (HVP2.out _ HK.out).mono ?_); rintro e w11 ⟨rfl, hk7⟩; replace HK := Lib.hid hk7; obtain ⟨p0, p1, p2, p3, p4, p5, p6, p7, p8, p9, p10, p11, p12⟩ := hk7.all HTM0.out HTM1.out HTM2.out HTM3.out HTM4.out; clear hk7) | (go_at_call 25; (with_reducible refine (HVQ2.out _ HK.out).mono ?_); rintro e w12 ⟨rfl, hk7⟩; replace HK := Lib.hid hk7; obtain ⟨p0, p1, p2, p3, p4, p5, p6, p7, p8, p9, p10, p11, p12⟩ := hk7.all HTM0.out HTM1.out HTM2.out HTM3.out HTM4.out; clear hk7) | (go_at_call 26; (with_reducible refine (HVD2.out _ HK.out).mono ?_); rintro e w13 ⟨rfl, hk7⟩; replace HK := Lib.hid hk7; obtain ⟨p0, p1, p2, p3, p4, p5, p6, p7, p8, p9, p10, p11, p12⟩ := hk7.all HTM0.out HTM1.out HTM2.out HTM3.out HTM4.out; clear hk7))
           go_ret
           exact ⟨by rw [HVF.out]; rfl, HK.out.k.hb⟩
end Go.Proofs.YtfimacgmciogmaaGreatDoor
namespace Go.Proofs.YtfimacgmciogmaaGreatDoor
set_option linter.unusedSimpArgs false
set_option linter.unusedVariables false
open Go.RowKit Go.Shelf Go.Sort
theorem KV.s {T : TypeId} {w : World} {n : Int} {r : Rws} {c : Cf} {W : World} (h : KV T w n r c W) : (fun w' => w'.cell? ⟨w.heap.size + 1, 0, none⟩ = some (.int .i64 n) ∧ w'.cell? ⟨w.heap.size + 1, 1, none⟩ = some (.slice r.aO c.ov.length r.cO) ∧ w'.cell? ⟨w.heap.size + 1, 2, none⟩ = some (.slice r.aK c.links.length r.cK) ∧ w'.cell? ⟨w.heap.size, 0, none⟩ = some (.slice r.aN c.names.length r.cN) ∧ w'.cell? ⟨w.heap.size, 1, none⟩ = some (.slice r.aL c.lnames.length r.cL)) W := ⟨h.q 0, h.q 1, h.q 2, h.p 0, h.p 1⟩
end Go.Proofs.YtfimacgmciogmaaGreatDoor
namespace Go.Proofs.YtfimacgmciogmaaGreatDoor
set_option linter.unusedSimpArgs false
set_option linter.unusedVariables false
open Go.RowKit Go.Shelf Go.Sort
end Go.Proofs.YtfimacgmciogmaaGreatDoor
namespace Go.Proofs.YtfimacgmciogmaaGreatDoor
set_option linter.unusedSimpArgs false
set_option linter.unusedVariables false
open Go.RowKit Go.Sort Go.Shelf
set_option maxHeartbeats 1000000 in
set_option maxRecDepth 100000 in
theorem prn_copyCheck_fresh (b : Nat) (w : World) (h0 : w.cell? ⟨b, 0, none⟩ = some (.pointer none)) (hsh : w.shape? b = some (65, 2)) (hfz : w.frozen? ⟨b, 0, none⟩ = false) :
  Calls Tryz.prog 71 #[.pointer (some ⟨b, 0, none⟩)] w fun e w' => e = .returned (.tuple #[]) ∧ w.setCell ⟨b, 0, none⟩ (.pointer (some ⟨b, 0, none⟩)) = w' := by
 obtain ⟨j, hj, hjs⟩ := Option.map_eq_some_iff.1 builderSize
 go_enter Tryz.func71, Tryz.ntmps71
 go_wp2
 rw [Lib.run_to_unsafe w ⟨b, 0, none⟩ Tryz.underlying60 Tryz.underlying145 hj (by rw [hjs]; decide) hsh (Nat.zero_lt_succ 1)]
 simp only [Result.andThen]
 rw [Oper.upon_value]
 go_wp2
 rw [run_callFunc_extern Tryz.func84 (by kernel_rfl) (by kernel_rfl) (by kernel_rfl) (e := Extern.AbiNoEscape.same) (by kernel_rfl)]
 rw [Lib.run_noEscape]
 simp only [Result.andThen]
 rw [Oper.upon_value]
 go_wp2
 rw [Lib.run_from_unsafe w ⟨b, 0, none⟩ Tryz.underlying145 Tryz.underlying60 hj hsh (by kernel_rfl)]
 simp only [Result.andThen]
 rw [Oper.upon_value]
 go_wp2
 go_end0
 exact ⟨rfl, rfl⟩
theorem prn_copyCheck (B b : Nat) (bs : List Value) (w : World) (h : Lib.IsBuilder 65 5 B b bs w) :
  Calls Tryz.prog 71 #[.pointer (some ⟨b, 0, none⟩)] w fun e w' => e = .returned (.tuple #[]) ∧ (Lib.BuilderAt 65 5 B b (.pointer (some ⟨b, 0, none⟩)) bs w' ∧ Below B w w' ∧ KeepT 65 5 w w') := by
 rcases h with h | h
 ·refine (prn_copyCheck_fresh b w h.cell0 h.shape h.frozen0).mono ?_
  rintro e w' ⟨rfl, rfl⟩
  obtain ⟨v, hbk, _⟩ := h.2
  exact ⟨rfl, h.used _, (Below.refl B w).setCell (p := ⟨b, 0, none⟩) h.1 _, KeepT.setCell hbk _⟩
 ·refine (builder_copyCheck_used b w h.cell0).mono ?_
  rintro e w' ⟨rfl, rfl⟩
  exact ⟨rfl, h, Below.refl B _, KeepT.refl _ _ _⟩
set_option maxHeartbeats 2000000 in
set_option maxRecDepth 100000 in
theorem prn_WriteByte (B b : Nat) (bs : List Value) (c : Int) (w : World) (h : Lib.IsBuilder 65 5 B b bs w) (hlen : bs.length + 1 ≤ 140737488355328) (hBw : B ≤ w.heap.size) :
  Calls Tryz.prog 44 #[.pointer (some ⟨b, 0, none⟩), .int .u8 c] w fun e w' => e = .returned .nilIface ∧ (Lib.IsBuilder 65 5 B b (bs ++ [.int .u8 c]) w' ∧ Below B w w' ∧ KeepT 65 5 w w') := by
 obtain ⟨i0, hi, hz0, hz1, hz2⟩ := info_parts byteInfo
 go_enter Tryz.func44, Tryz.ntmps44
 go_wp2_with (go_at_call 71; refine (prn_copyCheck B b bs _ h).mono ?_)
 rintro e w1 ⟨rfl, h1, hb1, hk1⟩
 obtain ⟨hB, v, hbk, hown, hne⟩ := h1
 have c0 : w1.cell? ⟨b, 0, none⟩ = some (.pointer (some ⟨b, 0, none⟩)) := by rw [Lib.cell_of_heap hbk]; rfl
 have c1 : w1.cell? ⟨b, 1, none⟩ = some v := by rw [Lib.cell_of_heap hbk]; rfl
 go_wp2_with (at_builtin; refine wpList_append_own _ rfl _ _ 61 rfl B 5 i0 (.int .u8 0) 1 1 Tryz.underlying61 hi hz0 hz1 hz2 rfl (by decide) _ _ _ rfl (hown.alloc _) ⟨w1.heap.size, 0, none⟩ 1 1 [.int .u8 c] rfl rfl ?c1 ?c2 ?c3 ?c4 ?c5 ?_)
 case c1 =>
  intro j u hj
  match j, hj with
  | 0, hj => simp at hj; subst hj; simp [Addr.add]
 case c2 => intro u hu; simp at hu; subst hu; rfl
 case c3 => unfold maxLen; omega
 case c4 => omega
 case c5 => have := hb1.size; simp; omega
 intro v' w2 hown' hgrow _
 have hlt : b < w1.heap.size := lt_of_heap hbk
 have hb2 : w2.heap[b]? = some (.cells #[.pointer (some ⟨b, 0, none⟩), v] 65 (0, 0)) := by
  rw [hgrow.block b (by simp; omega) (fun e => hne e.symm), Lib.alloc_old w1 _ b hlt]
  exact hbk
 have d0 : w2.cell? ⟨b, 0, none⟩ = some (.pointer (some ⟨b, 0, none⟩)) := by rw [Lib.cell_of_heap hb2]; rfl
 have d1 : w2.cell? ⟨b, 1, none⟩ = some v := by rw [Lib.cell_of_heap hb2]; rfl
 have f1 : w2.frozen? ⟨b, 1, none⟩ = false := Lib.frozen_of_heap hb2 1
 obtain ⟨g, cap, rfl⟩ : ∃ g cap, v' = .slice (some ⟨g, 0, none⟩) (bs.length + 1) cap := by
  rcases hown'.2 with ⟨_, h0⟩ | ⟨g, cap, cur, hv, _⟩
  ·omega
  ·exact ⟨g, cap, hv⟩
 go_wp2
 go_ret
 refine ⟨rfl, .inr ?_, ?_, ?_⟩
 ·exact Lib.BuilderAt.put (T := 65) (e := 5) hB hb2 (bs' := bs ++ [.int .u8 c]) (by simpa using hown') (by decide)
 ·exact ((hb1.alloc (by have := hb1.size; omega) _).grown hgrow (by have := hb1.size; simp; omega) (fun k hk => (hown.lt k hk).1)).setCell (p := ⟨b, 1, none⟩) hB _
 ·exact ((hk1.trans (KeepT.of_below (below_box w1 _))).trans (KeepT.grown (hown.alloc _) hgrow)).trans (KeepT.setCell hb2 _)
set_option maxHeartbeats 2000000 in
set_option maxRecDepth 100000 in
theorem prn_WriteString (B b : Nat) (bs : List Value) (s : ByteArray) (w : World) (h : Lib.IsBuilder 65 5 B b bs w) (hlen : bs.length + s.size ≤ 140737488355328) (hBw : B ≤ w.heap.size) :
  Calls Tryz.prog 42 #[.pointer (some ⟨b, 0, none⟩), .string s] w fun e w' => e = .returned (.tuple #[.int .i64 s.size, .nilIface]) ∧ (Lib.IsBuilder 65 5 B b (bs ++ Lib.strCells s) w' ∧ Below B w w' ∧ KeepT 65 5 w w') := by
 obtain ⟨i0, hi, hz0, hz1, hz2⟩ := info_parts byteInfo
 go_enter Tryz.func42, Tryz.ntmps42
 go_wp2_with (go_at_call 71; refine (prn_copyCheck B b bs _ h).mono ?_)
 rintro e w1 ⟨rfl, h1, hb1, hk1⟩
 obtain ⟨hB, v, hbk, hown, hne⟩ := h1
 have c0 : w1.cell? ⟨b, 0, none⟩ = some (.pointer (some ⟨b, 0, none⟩)) := by rw [Lib.cell_of_heap hbk]; rfl
 have c1 : w1.cell? ⟨b, 1, none⟩ = some v := by rw [Lib.cell_of_heap hbk]; rfl
 go_wp2_with (at_builtin; refine Lib.wpList_append_own_string _ rfl _ _ 61 9 rfl B 5 i0 Tryz.underlying61 Tryz.underlying9 hi hz0 hz1 hz2 _ _ _ rfl hown s rfl ?c3 ?c4 ?c5 ?_)
 case c3 => unfold maxLen; omega
 case c4 => omega
 case c5 => have := hb1.size; omega
 intro v' w2 hown' hgrow _
 have hlt : b < w1.heap.size := lt_of_heap hbk
 have hb2 : w2.heap[b]? = some (.cells #[.pointer (some ⟨b, 0, none⟩), v] 65 (0, 0)) := by
  rw [hgrow.block b hlt (fun e => hne e.symm)]
  exact hbk
 have d0 : w2.cell? ⟨b, 0, none⟩ = some (.pointer (some ⟨b, 0, none⟩)) := by rw [Lib.cell_of_heap hb2]; rfl
 have d1 : w2.cell? ⟨b, 1, none⟩ = some v := by rw [Lib.cell_of_heap hb2]; rfl
 have f1 : w2.frozen? ⟨b, 1, none⟩ = false := Lib.frozen_of_heap hb2 1
 obtain ⟨ao, n', cap, rfl⟩ : ∃ ao n' cap, v' = .slice ao n' cap := by
  rcases hown'.2 with ⟨hv, _⟩ | ⟨g, cap, cur, hv, _⟩
  ·exact ⟨_, _, _, hv⟩
  ·exact ⟨_, _, _, hv⟩
 go_wp2
 go_ret2
 refine ⟨rfl, .inr ?_, ?_, ?_⟩
 ·exact Lib.BuilderAt.put (T := 65) (e := 5) hB hb2 (bs' := bs ++ Lib.strCells s) (by simpa [Lib.strCells_length] using hown') (by decide)
 ·exact (hb1.grown hgrow (by have := hb1.size; omega) (fun k hk => (hown.lt k hk).1)).setCell (p := ⟨b, 1, none⟩) hB _
 ·exact (hk1.trans (KeepT.grown hown hgrow)).trans (KeepT.setCell hb2 _)
set_option maxHeartbeats 2000000 in
set_option maxRecDepth 100000 in
/-- What a printer holds. -/
theorem prn_String (B b : Nat) (l : List UInt8) (w : World) (h : Lib.IsBuilder 65 5 B b (Lib.byteCells l) w) (h0 : l ≠ []) :
  Calls Tryz.prog 19 #[.pointer (some ⟨b, 0, none⟩)] w fun e w' => e = .returned (.string ⟨l.toArray⟩) ∧ Below B w w' := by
 obtain ⟨p, hB, v, hbk, hown, hne⟩ : ∃ p, Lib.BuilderAt 65 5 B b p (Lib.byteCells l) w := by
  rcases h with h | h
  ·exact ⟨_, h⟩
  ·exact ⟨_, h⟩
 have hl0 : l.length ≠ 0 := by simpa using h0
 rw [Lib.byteCells_length] at hown
 obtain ⟨g, cap, cur, rfl, hbg, hg, hnc, hcm, hcs, htake⟩ : ∃ g cap cur, v = .slice (some ⟨g, 0, none⟩) l.length cap ∧ B ≤ g ∧ w.heap[g]? = some (.cells cur 5 (0, 0)) ∧ l.length ≤ cap ∧ cap ≤ maxLen ∧ cur.size = cap * 1 ∧ cur.toList.take (l.length * 1) = Lib.byteCells l := by
  rcases hown.2 with ⟨_, hz⟩ | ⟨g, cap, cur, hv, r⟩
  ·exact absurd hz hl0
  ·exact ⟨g, cap, cur, hv, r⟩
 have c1 : w.drew.cell? ⟨b, 1, none⟩ = some (.slice (some ⟨g, 0, none⟩) l.length cap) := by
  have : w.drew.heap[b]? = some (.cells #[p, .slice (some ⟨g, 0, none⟩) l.length cap] 65 (0, 0)) := hbk
  rw [Lib.cell_of_heap this]; rfl
 have hSD : (Builtin.unsafeSliceData_ #[61] 108 #[.slice (some ⟨g, 0, none⟩) l.length cap]).run Tryz.prog w.drew = .ok (.pointer (some ⟨g, 0, none⟩)) w.drew :=
  Lib.run_unsafeSliceData_row _ _ _ _ _ _ (by omega)
 have hUS : (Builtin.unsafeString_ #[108, 3] 9 #[.pointer (some ⟨g, 0, none⟩), .int .i64 l.length]).run Tryz.prog w.drew = .ok (.string ⟨l.toArray⟩) (w.drew.freeze ⟨g, 0, none⟩ l.length) := by
  refine Lib.run_unsafeString_row w.drew 108 3 9 5 Tryz.underlying108 (by kernel_rfl) g cur.size (by have hg' : w.drew.heap[g]? = some (.cells cur 5 (0, 0)) := hg; simp [World.shape?, hg']) l h0 (by omega) (by unfold maxLen at hcm; omega) ?_
  intro j x hx
  have := hown.cells (g := g) rfl j (.int .u8 x.toNat) (by simp [Lib.byteCells, hx])
  exact this
 have HBG := Lib.hid hbg
 clear hg hcs htake hown hne hbk hB
 have mixed : Tryz.prog.follows .mixedOrders = true := by kernel_rfl
 go_enter Tryz.func19, Tryz.ntmps19
 go_wp2
 go_region_o
 all_goals (go_wp2; go_ret; exact ⟨rfl, Lib.below_freeze (Below.drew (Below.refl B w)) (p := ⟨g, 0, none⟩) HBG.out _⟩)
theorem join_words (A : Option Addr) (c : Nat) (ws : List (List UInt8)) (w : World) (hr : Rd w A (ws.map strW)) (hne : ws ≠ []) (hl : ws.length ≤ 100000) (hc : ws.length ≤ c) (hj : (Lib.join ws [32]).length ≤ 140737488355328) :
  Calls Tryz.prog 43 #[.slice A ws.length c, .string ⟨#[32]⟩] w fun e w' => e = .returned (.string ⟨(Lib.join ws [32]).toArray⟩) ∧ Below w.heap.size w w' := by
 have hm : (ws.map fun p => (⟨p.toArray⟩ : ByteArray)).map (·.data.toList) = ws := by rw [List.map_map, show ((fun x : ByteArray => x.data.toList) ∘ fun l : List UInt8 => (⟨l.toArray⟩ : ByteArray)) = id from rfl, List.map_id]
 have hpos : 0 < ws.length := List.length_pos_iff.2 hne
 obtain ⟨bk, o, rfl, h0⟩ := hr.at_ (k := 0) (u := strW ws[0]) (by rw [List.getElem?_map, List.getElem?_eq_getElem hpos]; rfl)
 have hcells : ∀ (j : Nat) x, (ws.map fun p => (⟨p.toArray⟩ : ByteArray))[j]? = some x → w.cell? ⟨bk, o + j, none⟩ = some (.string x) := by
  intro j x hx
  rw [List.getElem?_map] at hx
  obtain ⟨p, hp, rfl⟩ := Option.map_eq_some_iff.1 hx
  obtain ⟨bk', o', e, h1⟩ := hr.at_ (k := j) (u := strW p) (by rw [List.getElem?_map, hp]; rfl)
  injection e with e
  injection e with e1 e2 _
  subst e1 e2
  exact h1
 have h := Tryz.strings_Join bk o c _ ⟨#[32]⟩ w hcells (block_lt_of_cell h0) (by simp; omega) (by simpa using hc) (by rw [hm]; exact hj)
 rw [hm, List.length_map] at h
 exact h
end Go.Proofs.YtfimacgmciogmaaGreatDoor
namespace Go.Proofs.YtfimacgmciogmaaGreatDoor
set_option linter.unusedSimpArgs false
set_option linter.unusedVariables false
open Go.RowKit Go.Sort Go.Shelf
/-- What a line of words adds. -/
def prnT (ws : List (List UInt8)) : List UInt8 := Lib.join ws [32] ++ [10]
theorem prn_bc (l m : List UInt8) : Lib.byteCells l ++ Lib.strCells ⟨m.toArray⟩ = Lib.byteCells (l ++ m) := by simp [Lib.byteCells, Lib.strCells]
theorem prn_bb (l : List UInt8) (x : UInt8) : Lib.byteCells l ++ [.int .u8 x.toNat] = Lib.byteCells (l ++ [x]) := by simp [Lib.byteCells]
def PT (B b : Nat) (l : List UInt8) (w : World) : Prop := Lib.IsBuilder 65 5 B b (Lib.byteCells l) w
theorem PT.up {B b : Nat} {l : List UInt8} {w w' : World} (h : PT B b l w) (hb : Below w.heap.size w w') : PT B b l w' := IsBuilder.up h hb
set_option maxHeartbeats 4000000 in
set_option maxRecDepth 100000 in
theorem prn_line (B b : Nat) (l : List UInt8) (A : Option Addr) (n c : Nat) (ws : List (List UInt8)) (hn : ws.length = n) (w : World) (h : PT B b l w) (hr : Rd w A (ws.map strW)) (hne : ws ≠ []) (hl : ws.length ≤ 100000) (hc : ws.length ≤ c) (hj : l.length + (Lib.join ws [32]).length + 1 ≤ 140737488355328) (hBw : B ≤ w.heap.size) :
  Calls Tryz.prog 14 #[.pointer (some ⟨b, 0, none⟩), .slice A n c] w fun e w' => e = .returned (.tuple #[]) ∧ PT B b (l ++ prnT ws) w' ∧ Below B w w' ∧ KeepT 65 5 w w' := by
 subst hn
 have HP := Lib.hid (h.up (below_drw2 w))
 have HR := Lib.hid (hr.below (below_drw2 w))
 have HJ : Hid (Calls Tryz.prog 43 #[.slice A ws.length c, .string ⟨#[32]⟩] w.drew fun e w' => e = .returned (.string ⟨(Lib.join ws [32]).toArray⟩) ∧ Below w.drew.heap.size w.drew w') := Lib.hid (join_words A c ws w.drew HR.out hne hl hc (by omega))
 obtain ⟨J, hJe⟩ : ∃ J, J = Lib.join ws [32] := ⟨_, rfl⟩
 rw [← hJe] at HJ hj
 have HJE := Lib.hid hJe
 clear h hr hne hl hc hJe
 go_enter Tryz.func14, Tryz.ntmps14
 go_wp2_with fail
 refine wp_region_held_drew (S := (fun _ => True)) (by kernel_rfl) ?_ (fun hHeld => ?_)
 ·exact trivial
 (refine takeL (i := 0) (v := ?_) rfl (by kernel_rfl) (by decide +kernel) (by decide +kernel) (fun _ _ _ h => h) (Or.inl ⟨by rfl, ?_⟩) (by assumption) ?_; rotate_left; (focus (intro w9 hS9; (try dsimp only at hS9); go_simp; (try with_reducible rfl); done)))
 (try simp only [Act.put, List.setIfInBounds_toArray, List.set_cons_zero, List.set_cons_succ])
 (refine takeL (i := 1) (v := ?_) rfl (by kernel_rfl) (by decide +kernel) (by decide +kernel) (fun _ _ _ h => h) (Or.inl ⟨by rfl, ?_⟩) (by assumption) ?_; rotate_left; (focus (intro w9 hS9; (try dsimp only at hS9); go_simp; (try with_reducible rfl); done)))
 (try simp only [Act.put, List.setIfInBounds_toArray, List.set_cons_zero, List.set_cons_succ])
 (refine takeL (i := 2) (v := ?_) rfl (by kernel_rfl) (by decide +kernel) (by decide +kernel) (fun _ _ _ h => h) (Or.inl ⟨by rfl, ?_⟩) (by assumption) ?_; rotate_left; (focus (intro w9 hS9; (try dsimp only at hS9); go_simp; (try with_reducible rfl); done)))
 (try simp only [Act.put, List.setIfInBounds_toArray, List.set_cons_zero, List.set_cons_succ])
 (refine takeL (i := 3) (v := ?_) rfl (by kernel_rfl) (by decide +kernel) (by decide +kernel) (fun _ _ _ h => h) (Or.inl ⟨by rfl, ?_⟩) (by assumption) ?_; rotate_left; (focus (intro w9 hS9; (try dsimp only at hS9); go_simp; (try with_reducible rfl); done)))
 (try simp only [Act.put, List.setIfInBounds_toArray, List.set_cons_zero, List.set_cons_succ])
 refine wpAnyH_ready (rs := [4]) (by decide +kernel) (by simp) ?_
 refine consL rfl (fun K hK => ?_) ?_
 ·(first | (go_at_call 43; (with_reducible refine HJ.out.mono ?_); rintro e w1 ⟨rfl, hb1⟩; have HP1 := Lib.hid (HP.out.up hb1); have HB1 : Hid (Below B w w1) := Lib.hid (((below_drw2 w).mono hBw).trans (hb1.mono hBw)); have HK1 : Hid (KeepT 65 5 w w1) := Lib.hid ((KeepT.of_below (below_drw2 w)).trans (KeepT.of_below hb1)); clear hb1) | (go_simp; first | done | (first | (go_at_call 43; (with_reducible refine HJ.out.mono ?_); rintro e w1 ⟨rfl, hb1⟩; have HP1 := Lib.hid (HP.out.up hb1); have HB1 : Hid (Below B w w1) := Lib.hid (((below_drw2 w).mono hBw).trans (hb1.mono hBw)); have HK1 : Hid (KeepT 65 5 w w1) := Lib.hid ((KeepT.of_below (below_drw2 w)).trans (KeepT.of_below hb1)); clear hb1))) | go_simp)
  (first | (with_reducible refine hK.out _ _ ?_ ?_) | (go_wp2_with fail; refine hK.out _ _ ?_ ?_))
  (focus (exact trivial))
  clear hK K hHeld
  intro hHeld
  (try simp only [Act.put, List.setIfInBounds_toArray, List.set_cons_zero, List.set_cons_succ])
  refine wpAnyH_ready (rs := [5]) (by decide +kernel) (by simp) ?_
  refine consL rfl (fun K hK => ?_) ?_
  ·(first | (go_at_call 42; (refine (prn_WriteString B b _ _ _ HP1.out ?h1 ?h2).mono ?_); (case h1 => simp only [Lib.byteCells_length, ByteArray.size, List.size_toArray]; omega); (case h2 => exact Nat.le_trans hBw HB1.out.size); rintro e w2 ⟨rfl, h5, hb5, hk5⟩; rw [prn_bc] at h5; have HP2 := Lib.hid h5; have HB2 := Lib.hid (HB1.out.trans hb5); have HK2 := Lib.hid (HK1.out.trans hk5); clear h5 hb5 hk5) | (go_simp; first | done | (first | (go_at_call 42; (refine (prn_WriteString B b _ _ _ HP1.out ?h1 ?h2).mono ?_); (case h1 => simp only [Lib.byteCells_length, ByteArray.size, List.size_toArray]; omega); (case h2 => exact Nat.le_trans hBw HB1.out.size); rintro e w2 ⟨rfl, h5, hb5, hk5⟩; rw [prn_bc] at h5; have HP2 := Lib.hid h5; have HB2 := Lib.hid (HB1.out.trans hb5); have HK2 := Lib.hid (HK1.out.trans hk5); clear h5 hb5 hk5))) | go_simp)
   (first | (with_reducible refine hK.out _ _ ?_ ?_) | (go_wp2_with fail; refine hK.out _ _ ?_ ?_))
   (focus (exact trivial))
   clear hK K hHeld
   intro hHeld
   (try simp only [Act.put, List.setIfInBounds_toArray, List.set_cons_zero, List.set_cons_succ])
   refine wpAnyH_done (by decide +kernel) ?_ _
   clear hHeld
   go_wp2_with (go_at_call 44; (refine (prn_WriteByte B b _ 10 _ HP2.out ?h3 ?h4).mono ?_); (case h3 => simp only [Lib.byteCells_length, List.length_append]; omega); (case h4 => exact Nat.le_trans hBw HB2.out.size); rintro e w3 ⟨rfl, h6, hb6, hk6⟩)
   go_end0
   refine ⟨rfl, ?_, HB2.out.trans hb6, HK2.out.trans hk6⟩
   have h7 := h6
   rw [show (Value.int .u8 10) = Value.int .u8 ((10 : UInt8).toNat : Int) from rfl, prn_bb] at h7
   rw [prnT, ← HJE.out, ← List.append_assoc]
   exact h7
  exact AllReadyH.nil
 exact AllReadyH.nil
end Go.Proofs.YtfimacgmciogmaaGreatDoor
