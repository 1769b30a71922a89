/-
  A checker in memory; verify.newChecker (printed by gen_vyn.py).
-/
import Derived.Test.YtdnjflpmbnjgeaaGreatVyV
import Derived.Test.YtdnjflpmbnjgeaaGreatPkInvR
import Derived.Test.YtdnjflpmbnjgeaaGreatPkHeapN
set_option linter.unusedSimpArgs false
set_option linter.unusedVariables false
namespace Go.Proofs.YtdnjflpmbnjgeaaGreat
section
open Go.RowKit Go.Sort
/-- A map with a value for every key. -/
def FT {α β : Type} (k : TypeId) (enc : α → Value) (ev : β → Value) (b : Nat) (z : β) (f : α → β) (w : World) : Prop := ∃ g, FM Tryz.prog k enc ev b g w ∧ ∀ a, (g a).getD z = f a
section
variable {α β : Type} {k e t : TypeId} {enc : α → Value} {ev : β → Value} {b : Nat} {z : β} {f : α → β} {w w' : World}
theorem FT.lt (h : FT k enc ev b z f w) : b < w.heap.size := by obtain ⟨g, h1, _⟩ := h; exact h1.lt
theorem FT.kept (h : FT k enc ev b z f w) (hb : w'.heap[b]? = w.heap[b]?) : FT k enc ev b z f w' := by obtain ⟨g, h1, h2⟩ := h; exact ⟨g, h1.kept hb, h2⟩
theorem FT.look (h : FT k enc ev b z f w) (K : Go.Maps.Keyed Tryz.prog k) (ht : Tryz.prog.underlying t = some (.map k e)) (hz : (zeroValue e).run Tryz.prog w = .ok (ev z) w) (a : α) (hkey : ∃ kl, keyOf Tryz.prog k (enc a) = some kl) (hi : ∀ x, enc x = enc a → x = a) :
    (Instr.lookup t (.map (some b)) (enc a) false).run Tryz.prog w = .ok (ev (f a)) w := by
 obtain ⟨g, h1, h2⟩ := h
 have := h1.look K ht hz a hkey hi false
 rw [if_neg Bool.false_ne_true] at this
 rw [this, ← h2 a]
 cases g a <;> rfl
theorem FT.put [DecidableEq α] (h : FT k enc ev b z f w) (K : Go.Maps.Keyed Tryz.prog k) (ht : Tryz.prog.underlying t = some (.map k e)) (a : α) (y : β) (hkey : ∃ kl, keyOf Tryz.prog k (enc a) = some kl) (hi : ∀ x, enc x = enc a → x = a) (hv : ∀ u, ev u = ev y → u = y) :
    ∃ w', (Instr.mapUpdate t (.map (some b)) (enc a) (ev y)).run Tryz.prog w = .ok () w' ∧ FT k enc ev b z (fun x => if x = a then y else f x) w' ∧ w.grownBy w' (some b) := by
 obtain ⟨g, h1, h2⟩ := h
 obtain ⟨w', g1, g2, g3⟩ := h1.put K ht a y hkey hi hv
 refine ⟨w', g1, ⟨_, g2, fun x => ?_⟩, g3⟩
 by_cases e : x = a
 ·simp only [e, if_true]; rfl
 ·simp only [if_neg e]; exact h2 x
theorem FT.del [DecidableEq α] {ty : TypeId} (h : FT k enc ev b z f w) (K : Go.Maps.Keyed Tryz.prog k) (ht : Tryz.prog.underlying t = some (.map k e)) (a : α) (hkey : ∃ kl, keyOf Tryz.prog k (enc a) = some kl) (hi : ∀ x, enc x = enc a → x = a) :
    ∃ w', (Builtin.delete_ #[t, k] ty #[.map (some b), enc a]).run Tryz.prog w = .ok (.tuple #[]) w' ∧ FT k enc ev b z (fun x => if x = a then z else f x) w' ∧ w.grownBy w' (some b) := by
 obtain ⟨g, h1, h2⟩ := h
 obtain ⟨w', g1, g2, g3⟩ := h1.del (ty := ty) K ht a hkey hi
 refine ⟨w', g1, ⟨_, g2, fun x => ?_⟩, g3⟩
 by_cases e : x = a
 ·simp only [e, if_true]; rfl
 ·simp only [if_neg e]; exact h2 x
theorem FT.of {g : α → Option β} (h : FM Tryz.prog k enc ev b g w) (hg : ∀ a, (g a).getD z = f a) : FT k enc ev b z f w := ⟨g, h, hg⟩
end
theorem FM.ofHeap {α β : Type} {k : TypeId} {enc : α → Value} {ev : β → Value} {b : Nat} {w : World} (h : w.heap[b]? = some (.map #[] 0)) : FM Tryz.prog k enc ev b (fun _ => none) w :=
 ⟨[], ⟨#[], 0, h, rfl, by simp, by simp, MapKept.stamped_empty 0⟩, by simp, by simp⟩
theorem FT.ofHeap {α β : Type} {k : TypeId} {enc : α → Value} {ev : β → Value} {b : Nat} {z : β} {w : World} (h : w.heap[b]? = some (.map #[] 0)) : FT k enc ev b z (fun _ => z) w := ⟨_, FM.ofHeap h, fun _ => rfl⟩
/-- A row that is filled with threes. -/
def fill3 (N k : Nat) : List Int := (List.range N).map fun i => if i < k then 3 else 0
theorem fill3_len (N k : Nat) : (fill3 N k).length = N := by simp [fill3]
theorem fill3_zero (N : Nat) : fill3 N 0 = List.replicate N 0 := List.ext_getElem (by simp [fill3]) fun i h1 h2 => by simp [fill3]
theorem fill3_set {N k : Nat} : (fill3 N k).set k 3 = fill3 N (k + 1) := by
 refine List.ext_getElem (by simp [fill3]) fun i h1 h2 => ?_
 rw [List.getElem_set]
 simp only [fill3, List.getElem_map, List.getElem_range]
 by_cases e : k = i
 ·subst e; simp
 ·rw [if_neg e]
  by_cases e2 : i < k
  ·rw [if_pos e2, if_pos (by omega)]
  ·rw [if_neg e2, if_neg (by omega)]
theorem fill3_done (N : Nat) : fill3 N N = List.replicate N 3 := by
 refine List.ext_getElem (by simp [fill3]) fun i h1 h2 => ?_
 simp [fill3] at h1 ⊢
 omega
/-- Rows of numbers and of marks, in blocks of their own. -/
def RowI (b : Nat) (l : List Int) (W : World) : Prop := Bl 3 b (l.map (Value.int .i64)).toArray W
def RowB (b : Nat) (l : List Bool) (W : World) : Prop := Bl 4 b (l.map Value.bool).toArray W
theorem RowI.cell {b : Nat} {l : List Int} {W : World} (h : RowI b l W) {i : Int} (h0 : 0 ≤ i) (h1 : i < (l.length : Int)) : W.cell? ⟨b, i.toNat, none⟩ = some (.int .i64 (getI l i)) := by
 refine Bl.cell h _ ?_
 have : i.toNat < l.length := by omega
 simp [getI, List.getD_eq_getElem?_getD, this]
theorem RowB.cell {b : Nat} {l : List Bool} {W : World} (h : RowB b l W) {i : Int} (h0 : 0 ≤ i) (h1 : i < (l.length : Int)) : W.cell? ⟨b, i.toNat, none⟩ = some (.bool (l.getD i.toNat false)) := by
 refine Bl.cell h _ ?_
 have : i.toNat < l.length := by omega
 simp [List.getD_eq_getElem?_getD, this]
theorem RowI.set {b : Nat} {l : List Int} {W : World} (h : RowI b l W) (i : Nat) (x : Int) : RowI b (l.set i x) (W.setCell ⟨b, i, none⟩ (.int .i64 x)) :=
 Bl.set h i _ (by rw [List.setIfInBounds_toArray, List.map_set])
theorem RowB.set {b : Nat} {l : List Bool} {W : World} (h : RowB b l W) (i : Nat) (x : Bool) : RowB b (l.set i x) (W.setCell ⟨b, i, none⟩ (.bool x)) :=
 Bl.set h i _ (by rw [List.setIfInBounds_toArray, List.map_set])
def encP (p : PkN) : Value := .agg #[.int .i64 p.id, .int .i64 p.src, .int .i64 p.dst, .int .i64 p.fl, .slice p.st p.sn p.sc, .int .i64 p.hops]
theorem encP_inj (p : PkN) : ∀ x, encP x = encP p → x = p := fun x h => by
 cases x; cases p
 simp [encP] at h
 obtain ⟨h1, h2, h3, h4, ⟨h5, h6, h7⟩, h8⟩ := h
 subst h1 h2 h3 h4 h5 h6 h7 h8
 rfl
/-- The blocks of a checker. -/
structure CkB where
 cb : Nat
 pk : Nat
 pr : Nat
 dn : Nat
 st : Nat
 en : Nat
 ch : Nat
 up : Nat
 sn : Nat
 sa : Nat
 ar : Nat
 fw : Nat
 cr : Nat
def CkB.L (b : CkB) : List Nat := [b.cb, b.pk, b.pr, b.dn, b.st, b.en, b.ch, b.up, b.sn, b.sa, b.ar, b.fw, b.cr]
/-- The cells of a checker. -/
def ckV (F : FaN) (A1 A2 O : Option Addr) (c1 c2 co : Nat) (fl : Value) (b : CkB) (c : CkS) : Array Value :=
 #[.int .i64 F.t.n, .slice A1 F.t.ov.length c1, .slice A2 F.t.ls.length c2, .int .i64 F.det, .int .i64 F.ga, .int .i64 F.ho, .slice O F.out.length co, .map (some b.pk), .map (some b.pr), fl, .map (some b.dn),
  .slice (some ⟨b.st, 0, none⟩) c.st.length c.st.length, .slice (some ⟨b.en, 0, none⟩) c.en.length c.en.length, .slice (some ⟨b.ch, 0, none⟩) c.ch.length c.ch.length, .slice (some ⟨b.up, 0, none⟩) c.up.length c.up.length,
  .map (some b.sn), .map (some b.sa), .map (some b.ar), .map (some b.fw), .map (some b.cr)]
/-- What lies in the blocks of a checker but its own. -/
structure CkM (b : CkB) (pm : Int → Option PkN) (pr : Int → Bool) (c : CkS) (W : World) : Prop where
 pk : FM Tryz.prog 3 enc1 encP b.pk pm W
 pr : FT 3 enc1 Value.bool b.pr false pr W
 dn : FT 3 enc1 Value.bool b.dn false c.dn W
 st : RowI b.st c.st W
 en : RowI b.en c.en W
 ch : RowI b.ch c.ch W
 up : RowB b.up c.up W
 sn : FT 3 enc1 Value.bool b.sn false c.sn W
 sa : FT 99 enc3 Value.bool b.sa false (fun p => c.sa p.1 p.2.1 p.2.2) W
 ar : FM Tryz.prog 101 enc2 (Value.int .i64) b.ar (fun p => c.ar p.1 p.2) W
 fw : FT 104 enc3 Value.bool b.fw false (fun p => c.fw p.1 p.2.1 p.2.2) W
 cr : FT 106 enc2 (Value.int .i64) b.cr 0 (fun p => c.cr p.1 p.2) W
theorem CkM.kept {b : CkB} {pm : Int → Option PkN} {pr : Int → Bool} {c : CkS} {W W' : World} (h : CkM b pm pr c W) (hb : ∀ k ∈ b.L, k ≠ b.cb → k < W.heap.size → W'.heap[k]? = W.heap[k]?) (hn : b.L.Nodup) : CkM b pm pr c W' := by
 simp only [CkB.L, List.nodup_cons, List.mem_cons, List.not_mem_nil, or_false, not_or] at hn
 have e : ∀ k, k ∈ b.L → k ≠ b.cb → k < W.heap.size → W'.heap[k]? = W.heap[k]? := hb
 refine ⟨h.pk.kept (e _ (by simp [CkB.L]) ?_ h.pk.lt), h.pr.kept (e _ (by simp [CkB.L]) ?_ h.pr.lt), h.dn.kept (e _ (by simp [CkB.L]) ?_ h.dn.lt), (e _ (by simp [CkB.L]) ?_ (Bl.lt h.st)).trans h.st, (e _ (by simp [CkB.L]) ?_ (Bl.lt h.en)).trans h.en, (e _ (by simp [CkB.L]) ?_ (Bl.lt h.ch)).trans h.ch, (e _ (by simp [CkB.L]) ?_ (Bl.lt h.up)).trans h.up, h.sn.kept (e _ (by simp [CkB.L]) ?_ h.sn.lt), h.sa.kept (e _ (by simp [CkB.L]) ?_ h.sa.lt), h.ar.kept (e _ (by simp [CkB.L]) ?_ h.ar.lt), h.fw.kept (e _ (by simp [CkB.L]) ?_ h.fw.lt), h.cr.kept (e _ (by simp [CkB.L]) ?_ h.cr.lt)⟩
 all_goals (intro e2; obtain ⟨n0, _⟩ := hn; simp only [e2, not_true_eq_false, false_and, and_false] at n0)
/-- A checker in memory. -/
structure CkAt (F : FaN) (A1 A2 O : Option Addr) (c1 c2 co : Nat) (fl : Value) (b : CkB) (pm : Int → Option PkN) (pr : Int → Bool) (c : CkS) (W : World) : Prop where
 own : Bl 69 b.cb (ckV F A1 A2 O c1 c2 co fl b c) W
 nd : b.L.Nodup
 m : CkM b pm pr c W
section
variable {F : FaN} {A1 A2 O : Option Addr} {c1 c2 co : Nat} {fl : Value} {b : CkB} {pm : Int → Option PkN} {pr : Int → Bool} {c : CkS} {W W' : World}
theorem CkAt.up (h : CkAt F A1 A2 O c1 c2 co fl b pm pr c W) (hb : Below W.heap.size W W') : CkAt F A1 A2 O c1 c2 co fl b pm pr c W' :=
 ⟨h.own.up hb, h.nd, h.m.kept (fun k _ _ hk => hb.block k hk) h.nd⟩
theorem CkAt.kp {X : List Nat} (h : CkAt F A1 A2 O c1 c2 co fl b pm pr c W) (hb : Kp X W W') (hX : ∀ k ∈ b.L, k ∉ X) : CkAt F A1 A2 O c1 c2 co fl b pm pr c W' :=
 ⟨h.own.kp hb (hX _ (by simp [CkB.L])), h.nd, h.m.kept (fun k hk _ hlt => hb.blk k hlt (hX k hk)) h.nd⟩
end
theorem CkB.ne {b : CkB} (hn : b.L.Nodup) : (b.cb ≠ b.pk ∧ b.cb ≠ b.pr ∧ b.cb ≠ b.dn ∧ b.cb ≠ b.st ∧ b.cb ≠ b.en ∧ b.cb ≠ b.ch ∧ b.cb ≠ b.up ∧ b.cb ≠ b.sn ∧ b.cb ≠ b.sa ∧ b.cb ≠ b.ar ∧ b.cb ≠ b.fw ∧ b.cb ≠ b.cr) ∧ (b.pk ≠ b.pr ∧ b.pk ≠ b.dn ∧ b.pk ≠ b.st ∧ b.pk ≠ b.en ∧ b.pk ≠ b.ch ∧ b.pk ≠ b.up ∧ b.pk ≠ b.sn ∧ b.pk ≠ b.sa ∧ b.pk ≠ b.ar ∧ b.pk ≠ b.fw ∧ b.pk ≠ b.cr) ∧ (b.pr ≠ b.dn ∧ b.pr ≠ b.st ∧ b.pr ≠ b.en ∧ b.pr ≠ b.ch ∧ b.pr ≠ b.up ∧ b.pr ≠ b.sn ∧ b.pr ≠ b.sa ∧ b.pr ≠ b.ar ∧ b.pr ≠ b.fw ∧ b.pr ≠ b.cr) ∧ (b.dn ≠ b.st ∧ b.dn ≠ b.en ∧ b.dn ≠ b.ch ∧ b.dn ≠ b.up ∧ b.dn ≠ b.sn ∧ b.dn ≠ b.sa ∧ b.dn ≠ b.ar ∧ b.dn ≠ b.fw ∧ b.dn ≠ b.cr) ∧ (b.st ≠ b.en ∧ b.st ≠ b.ch ∧ b.st ≠ b.up ∧ b.st ≠ b.sn ∧ b.st ≠ b.sa ∧ b.st ≠ b.ar ∧ b.st ≠ b.fw ∧ b.st ≠ b.cr) ∧ (b.en ≠ b.ch ∧ b.en ≠ b.up ∧ b.en ≠ b.sn ∧ b.en ≠ b.sa ∧ b.en ≠ b.ar ∧ b.en ≠ b.fw ∧ b.en ≠ b.cr) ∧ (b.ch ≠ b.up ∧ b.ch ≠ b.sn ∧ b.ch ≠ b.sa ∧ b.ch ≠ b.ar ∧ b.ch ≠ b.fw ∧ b.ch ≠ b.cr) ∧ (b.up ≠ b.sn ∧ b.up ≠ b.sa ∧ b.up ≠ b.ar ∧ b.up ≠ b.fw ∧ b.up ≠ b.cr) ∧ (b.sn ≠ b.sa ∧ b.sn ≠ b.ar ∧ b.sn ≠ b.fw ∧ b.sn ≠ b.cr) ∧ (b.sa ≠ b.ar ∧ b.sa ≠ b.fw ∧ b.sa ≠ b.cr) ∧ (b.ar ≠ b.fw ∧ b.ar ≠ b.cr) ∧ (b.fw ≠ b.cr) := by
 simpa [CkB.L, List.nodup_cons] using hn
section
variable {F : FaN} {A1 A2 O : Option Addr} {c1 c2 co : Nat} {fl : Value} {b : CkB} {pm : Int → Option PkN} {pr : Int → Bool} {c : CkS} {W W' : World}
theorem CkAt.on_pk (h : CkAt F A1 A2 O c1 c2 co fl b pm pr c W) (hW : ∀ k, k ≠ b.pk → k < W.heap.size → W'.heap[k]? = W.heap[k]?) (g : Int → Option PkN) (hr : FM Tryz.prog 3 enc1 encP b.pk g W') : CkAt F A1 A2 O c1 c2 co fl b g pr c W' := by
 obtain ⟨⟨n0_1, n0_2, n0_3, n0_4, n0_5, n0_6, n0_7, n0_8, n0_9, n0_10, n0_11, n0_12⟩, ⟨n1_2, n1_3, n1_4, n1_5, n1_6, n1_7, n1_8, n1_9, n1_10, n1_11, n1_12⟩, ⟨n2_3, n2_4, n2_5, n2_6, n2_7, n2_8, n2_9, n2_10, n2_11, n2_12⟩, ⟨n3_4, n3_5, n3_6, n3_7, n3_8, n3_9, n3_10, n3_11, n3_12⟩, ⟨n4_5, n4_6, n4_7, n4_8, n4_9, n4_10, n4_11, n4_12⟩, ⟨n5_6, n5_7, n5_8, n5_9, n5_10, n5_11, n5_12⟩, ⟨n6_7, n6_8, n6_9, n6_10, n6_11, n6_12⟩, ⟨n7_8, n7_9, n7_10, n7_11, n7_12⟩, ⟨n8_9, n8_10, n8_11, n8_12⟩, ⟨n9_10, n9_11, n9_12⟩, ⟨n10_11, n10_12⟩, n11_12⟩ := CkB.ne h.nd
 refine ⟨?_, h.nd, ?_⟩
 ·have := (hW b.cb n0_1 h.own.lt).trans h.own
  exact this
 ·exact ⟨hr, h.m.pr.kept (hW _ (Ne.symm n1_2) h.m.pr.lt), h.m.dn.kept (hW _ (Ne.symm n1_3) h.m.dn.lt), (hW _ (Ne.symm n1_4) (Bl.lt h.m.st)).trans h.m.st, (hW _ (Ne.symm n1_5) (Bl.lt h.m.en)).trans h.m.en, (hW _ (Ne.symm n1_6) (Bl.lt h.m.ch)).trans h.m.ch, (hW _ (Ne.symm n1_7) (Bl.lt h.m.up)).trans h.m.up, h.m.sn.kept (hW _ (Ne.symm n1_8) h.m.sn.lt), h.m.sa.kept (hW _ (Ne.symm n1_9) h.m.sa.lt), h.m.ar.kept (hW _ (Ne.symm n1_10) h.m.ar.lt), h.m.fw.kept (hW _ (Ne.symm n1_11) h.m.fw.lt), h.m.cr.kept (hW _ (Ne.symm n1_12) h.m.cr.lt)⟩
theorem CkAt.on_pr (h : CkAt F A1 A2 O c1 c2 co fl b pm pr c W) (hW : ∀ k, k ≠ b.pr → k < W.heap.size → W'.heap[k]? = W.heap[k]?) (g : Int → Bool) (hr : FT 3 enc1 Value.bool b.pr false g W') : CkAt F A1 A2 O c1 c2 co fl b pm g c W' := by
 obtain ⟨⟨n0_1, n0_2, n0_3, n0_4, n0_5, n0_6, n0_7, n0_8, n0_9, n0_10, n0_11, n0_12⟩, ⟨n1_2, n1_3, n1_4, n1_5, n1_6, n1_7, n1_8, n1_9, n1_10, n1_11, n1_12⟩, ⟨n2_3, n2_4, n2_5, n2_6, n2_7, n2_8, n2_9, n2_10, n2_11, n2_12⟩, ⟨n3_4, n3_5, n3_6, n3_7, n3_8, n3_9, n3_10, n3_11, n3_12⟩, ⟨n4_5, n4_6, n4_7, n4_8, n4_9, n4_10, n4_11, n4_12⟩, ⟨n5_6, n5_7, n5_8, n5_9, n5_10, n5_11, n5_12⟩, ⟨n6_7, n6_8, n6_9, n6_10, n6_11, n6_12⟩, ⟨n7_8, n7_9, n7_10, n7_11, n7_12⟩, ⟨n8_9, n8_10, n8_11, n8_12⟩, ⟨n9_10, n9_11, n9_12⟩, ⟨n10_11, n10_12⟩, n11_12⟩ := CkB.ne h.nd
 refine ⟨?_, h.nd, ?_⟩
 ·have := (hW b.cb n0_2 h.own.lt).trans h.own
  exact this
 ·exact ⟨h.m.pk.kept (hW _ n1_2 h.m.pk.lt), hr, h.m.dn.kept (hW _ (Ne.symm n2_3) h.m.dn.lt), (hW _ (Ne.symm n2_4) (Bl.lt h.m.st)).trans h.m.st, (hW _ (Ne.symm n2_5) (Bl.lt h.m.en)).trans h.m.en, (hW _ (Ne.symm n2_6) (Bl.lt h.m.ch)).trans h.m.ch, (hW _ (Ne.symm n2_7) (Bl.lt h.m.up)).trans h.m.up, h.m.sn.kept (hW _ (Ne.symm n2_8) h.m.sn.lt), h.m.sa.kept (hW _ (Ne.symm n2_9) h.m.sa.lt), h.m.ar.kept (hW _ (Ne.symm n2_10) h.m.ar.lt), h.m.fw.kept (hW _ (Ne.symm n2_11) h.m.fw.lt), h.m.cr.kept (hW _ (Ne.symm n2_12) h.m.cr.lt)⟩
theorem CkAt.on_dn (h : CkAt F A1 A2 O c1 c2 co fl b pm pr c W) (hW : ∀ k, k ≠ b.dn → k < W.heap.size → W'.heap[k]? = W.heap[k]?) (g : Int → Bool) (hr : FT 3 enc1 Value.bool b.dn false g W') : CkAt F A1 A2 O c1 c2 co fl b pm pr { c with dn := g } W' := by
 obtain ⟨⟨n0_1, n0_2, n0_3, n0_4, n0_5, n0_6, n0_7, n0_8, n0_9, n0_10, n0_11, n0_12⟩, ⟨n1_2, n1_3, n1_4, n1_5, n1_6, n1_7, n1_8, n1_9, n1_10, n1_11, n1_12⟩, ⟨n2_3, n2_4, n2_5, n2_6, n2_7, n2_8, n2_9, n2_10, n2_11, n2_12⟩, ⟨n3_4, n3_5, n3_6, n3_7, n3_8, n3_9, n3_10, n3_11, n3_12⟩, ⟨n4_5, n4_6, n4_7, n4_8, n4_9, n4_10, n4_11, n4_12⟩, ⟨n5_6, n5_7, n5_8, n5_9, n5_10, n5_11, n5_12⟩, ⟨n6_7, n6_8, n6_9, n6_10, n6_11, n6_12⟩, ⟨n7_8, n7_9, n7_10, n7_11, n7_12⟩, ⟨n8_9, n8_10, n8_11, n8_12⟩, ⟨n9_10, n9_11, n9_12⟩, ⟨n10_11, n10_12⟩, n11_12⟩ := CkB.ne h.nd
 refine ⟨?_, h.nd, ?_⟩
 ·have := (hW b.cb n0_3 h.own.lt).trans h.own
  exact this
 ·exact ⟨h.m.pk.kept (hW _ n1_3 h.m.pk.lt), h.m.pr.kept (hW _ n2_3 h.m.pr.lt), hr, (hW _ (Ne.symm n3_4) (Bl.lt h.m.st)).trans h.m.st, (hW _ (Ne.symm n3_5) (Bl.lt h.m.en)).trans h.m.en, (hW _ (Ne.symm n3_6) (Bl.lt h.m.ch)).trans h.m.ch, (hW _ (Ne.symm n3_7) (Bl.lt h.m.up)).trans h.m.up, h.m.sn.kept (hW _ (Ne.symm n3_8) h.m.sn.lt), h.m.sa.kept (hW _ (Ne.symm n3_9) h.m.sa.lt), h.m.ar.kept (hW _ (Ne.symm n3_10) h.m.ar.lt), h.m.fw.kept (hW _ (Ne.symm n3_11) h.m.fw.lt), h.m.cr.kept (hW _ (Ne.symm n3_12) h.m.cr.lt)⟩
theorem CkAt.on_st (h : CkAt F A1 A2 O c1 c2 co fl b pm pr c W) (hW : ∀ k, k ≠ b.st → k < W.heap.size → W'.heap[k]? = W.heap[k]?) (g : List Int) (hl : g.length = c.st.length) (hr : RowI b.st g W') : CkAt F A1 A2 O c1 c2 co fl b pm pr { c with st := g } W' := by
 obtain ⟨⟨n0_1, n0_2, n0_3, n0_4, n0_5, n0_6, n0_7, n0_8, n0_9, n0_10, n0_11, n0_12⟩, ⟨n1_2, n1_3, n1_4, n1_5, n1_6, n1_7, n1_8, n1_9, n1_10, n1_11, n1_12⟩, ⟨n2_3, n2_4, n2_5, n2_6, n2_7, n2_8, n2_9, n2_10, n2_11, n2_12⟩, ⟨n3_4, n3_5, n3_6, n3_7, n3_8, n3_9, n3_10, n3_11, n3_12⟩, ⟨n4_5, n4_6, n4_7, n4_8, n4_9, n4_10, n4_11, n4_12⟩, ⟨n5_6, n5_7, n5_8, n5_9, n5_10, n5_11, n5_12⟩, ⟨n6_7, n6_8, n6_9, n6_10, n6_11, n6_12⟩, ⟨n7_8, n7_9, n7_10, n7_11, n7_12⟩, ⟨n8_9, n8_10, n8_11, n8_12⟩, ⟨n9_10, n9_11, n9_12⟩, ⟨n10_11, n10_12⟩, n11_12⟩ := CkB.ne h.nd
 refine ⟨?_, h.nd, ?_⟩
 ·have := (hW b.cb n0_4 h.own.lt).trans h.own
  rwa [show ckV F A1 A2 O c1 c2 co fl b c = ckV F A1 A2 O c1 c2 co fl b { c with st := g } by simp only [ckV, hl]] at this
 ·exact ⟨h.m.pk.kept (hW _ n1_4 h.m.pk.lt), h.m.pr.kept (hW _ n2_4 h.m.pr.lt), h.m.dn.kept (hW _ n3_4 h.m.dn.lt), hr, (hW _ (Ne.symm n4_5) (Bl.lt h.m.en)).trans h.m.en, (hW _ (Ne.symm n4_6) (Bl.lt h.m.ch)).trans h.m.ch, (hW _ (Ne.symm n4_7) (Bl.lt h.m.up)).trans h.m.up, h.m.sn.kept (hW _ (Ne.symm n4_8) h.m.sn.lt), h.m.sa.kept (hW _ (Ne.symm n4_9) h.m.sa.lt), h.m.ar.kept (hW _ (Ne.symm n4_10) h.m.ar.lt), h.m.fw.kept (hW _ (Ne.symm n4_11) h.m.fw.lt), h.m.cr.kept (hW _ (Ne.symm n4_12) h.m.cr.lt)⟩
theorem CkAt.on_en (h : CkAt F A1 A2 O c1 c2 co fl b pm pr c W) (hW : ∀ k, k ≠ b.en → k < W.heap.size → W'.heap[k]? = W.heap[k]?) (g : List Int) (hl : g.length = c.en.length) (hr : RowI b.en g W') : CkAt F A1 A2 O c1 c2 co fl b pm pr { c with en := g } W' := by
 obtain ⟨⟨n0_1, n0_2, n0_3, n0_4, n0_5, n0_6, n0_7, n0_8, n0_9, n0_10, n0_11, n0_12⟩, ⟨n1_2, n1_3, n1_4, n1_5, n1_6, n1_7, n1_8, n1_9, n1_10, n1_11, n1_12⟩, ⟨n2_3, n2_4, n2_5, n2_6, n2_7, n2_8, n2_9, n2_10, n2_11, n2_12⟩, ⟨n3_4, n3_5, n3_6, n3_7, n3_8, n3_9, n3_10, n3_11, n3_12⟩, ⟨n4_5, n4_6, n4_7, n4_8, n4_9, n4_10, n4_11, n4_12⟩, ⟨n5_6, n5_7, n5_8, n5_9, n5_10, n5_11, n5_12⟩, ⟨n6_7, n6_8, n6_9, n6_10, n6_11, n6_12⟩, ⟨n7_8, n7_9, n7_10, n7_11, n7_12⟩, ⟨n8_9, n8_10, n8_11, n8_12⟩, ⟨n9_10, n9_11, n9_12⟩, ⟨n10_11, n10_12⟩, n11_12⟩ := CkB.ne h.nd
 refine ⟨?_, h.nd, ?_⟩
 ·have := (hW b.cb n0_5 h.own.lt).trans h.own
  rwa [show ckV F A1 A2 O c1 c2 co fl b c = ckV F A1 A2 O c1 c2 co fl b { c with en := g } by simp only [ckV, hl]] at this
 ·exact ⟨h.m.pk.kept (hW _ n1_5 h.m.pk.lt), h.m.pr.kept (hW _ n2_5 h.m.pr.lt), h.m.dn.kept (hW _ n3_5 h.m.dn.lt), (hW _ n4_5 (Bl.lt h.m.st)).trans h.m.st, hr, (hW _ (Ne.symm n5_6) (Bl.lt h.m.ch)).trans h.m.ch, (hW _ (Ne.symm n5_7) (Bl.lt h.m.up)).trans h.m.up, h.m.sn.kept (hW _ (Ne.symm n5_8) h.m.sn.lt), h.m.sa.kept (hW _ (Ne.symm n5_9) h.m.sa.lt), h.m.ar.kept (hW _ (Ne.symm n5_10) h.m.ar.lt), h.m.fw.kept (hW _ (Ne.symm n5_11) h.m.fw.lt), h.m.cr.kept (hW _ (Ne.symm n5_12) h.m.cr.lt)⟩
theorem CkAt.on_ch (h : CkAt F A1 A2 O c1 c2 co fl b pm pr c W) (hW : ∀ k, k ≠ b.ch → k < W.heap.size → W'.heap[k]? = W.heap[k]?) (g : List Int) (hl : g.length = c.ch.length) (hr : RowI b.ch g W') : CkAt F A1 A2 O c1 c2 co fl b pm pr { c with ch := g } W' := by
 obtain ⟨⟨n0_1, n0_2, n0_3, n0_4, n0_5, n0_6, n0_7, n0_8, n0_9, n0_10, n0_11, n0_12⟩, ⟨n1_2, n1_3, n1_4, n1_5, n1_6, n1_7, n1_8, n1_9, n1_10, n1_11, n1_12⟩, ⟨n2_3, n2_4, n2_5, n2_6, n2_7, n2_8, n2_9, n2_10, n2_11, n2_12⟩, ⟨n3_4, n3_5, n3_6, n3_7, n3_8, n3_9, n3_10, n3_11, n3_12⟩, ⟨n4_5, n4_6, n4_7, n4_8, n4_9, n4_10, n4_11, n4_12⟩, ⟨n5_6, n5_7, n5_8, n5_9, n5_10, n5_11, n5_12⟩, ⟨n6_7, n6_8, n6_9, n6_10, n6_11, n6_12⟩, ⟨n7_8, n7_9, n7_10, n7_11, n7_12⟩, ⟨n8_9, n8_10, n8_11, n8_12⟩, ⟨n9_10, n9_11, n9_12⟩, ⟨n10_11, n10_12⟩, n11_12⟩ := CkB.ne h.nd
 refine ⟨?_, h.nd, ?_⟩
 ·have := (hW b.cb n0_6 h.own.lt).trans h.own
  rwa [show ckV F A1 A2 O c1 c2 co fl b c = ckV F A1 A2 O c1 c2 co fl b { c with ch := g } by simp only [ckV, hl]] at this
 ·exact ⟨h.m.pk.kept (hW _ n1_6 h.m.pk.lt), h.m.pr.kept (hW _ n2_6 h.m.pr.lt), h.m.dn.kept (hW _ n3_6 h.m.dn.lt), (hW _ n4_6 (Bl.lt h.m.st)).trans h.m.st, (hW _ n5_6 (Bl.lt h.m.en)).trans h.m.en, hr, (hW _ (Ne.symm n6_7) (Bl.lt h.m.up)).trans h.m.up, h.m.sn.kept (hW _ (Ne.symm n6_8) h.m.sn.lt), h.m.sa.kept (hW _ (Ne.symm n6_9) h.m.sa.lt), h.m.ar.kept (hW _ (Ne.symm n6_10) h.m.ar.lt), h.m.fw.kept (hW _ (Ne.symm n6_11) h.m.fw.lt), h.m.cr.kept (hW _ (Ne.symm n6_12) h.m.cr.lt)⟩
theorem CkAt.on_up (h : CkAt F A1 A2 O c1 c2 co fl b pm pr c W) (hW : ∀ k, k ≠ b.up → k < W.heap.size → W'.heap[k]? = W.heap[k]?) (g : List Bool) (hl : g.length = c.up.length) (hr : RowB b.up g W') : CkAt F A1 A2 O c1 c2 co fl b pm pr { c with up := g } W' := by
 obtain ⟨⟨n0_1, n0_2, n0_3, n0_4, n0_5, n0_6, n0_7, n0_8, n0_9, n0_10, n0_11, n0_12⟩, ⟨n1_2, n1_3, n1_4, n1_5, n1_6, n1_7, n1_8, n1_9, n1_10, n1_11, n1_12⟩, ⟨n2_3, n2_4, n2_5, n2_6, n2_7, n2_8, n2_9, n2_10, n2_11, n2_12⟩, ⟨n3_4, n3_5, n3_6, n3_7, n3_8, n3_9, n3_10, n3_11, n3_12⟩, ⟨n4_5, n4_6, n4_7, n4_8, n4_9, n4_10, n4_11, n4_12⟩, ⟨n5_6, n5_7, n5_8, n5_9, n5_10, n5_11, n5_12⟩, ⟨n6_7, n6_8, n6_9, n6_10, n6_11, n6_12⟩, ⟨n7_8, n7_9, n7_10, n7_11, n7_12⟩, ⟨n8_9, n8_10, n8_11, n8_12⟩, ⟨n9_10, n9_11, n9_12⟩, ⟨n10_11, n10_12⟩, n11_12⟩ := CkB.ne h.nd
 refine ⟨?_, h.nd, ?_⟩
 ·have := (hW b.cb n0_7 h.own.lt).trans h.own
  rwa [show ckV F A1 A2 O c1 c2 co fl b c = ckV F A1 A2 O c1 c2 co fl b { c with up := g } by simp only [ckV, hl]] at this
 ·exact ⟨h.m.pk.kept (hW _ n1_7 h.m.pk.lt), h.m.pr.kept (hW _ n2_7 h.m.pr.lt), h.m.dn.kept (hW _ n3_7 h.m.dn.lt), (hW _ n4_7 (Bl.lt h.m.st)).trans h.m.st, (hW _ n5_7 (Bl.lt h.m.en)).trans h.m.en, (hW _ n6_7 (Bl.lt h.m.ch)).trans h.m.ch, hr, h.m.sn.kept (hW _ (Ne.symm n7_8) h.m.sn.lt), h.m.sa.kept (hW _ (Ne.symm n7_9) h.m.sa.lt), h.m.ar.kept (hW _ (Ne.symm n7_10) h.m.ar.lt), h.m.fw.kept (hW _ (Ne.symm n7_11) h.m.fw.lt), h.m.cr.kept (hW _ (Ne.symm n7_12) h.m.cr.lt)⟩
theorem CkAt.on_sn (h : CkAt F A1 A2 O c1 c2 co fl b pm pr c W) (hW : ∀ k, k ≠ b.sn → k < W.heap.size → W'.heap[k]? = W.heap[k]?) (g : Int → Bool) (hr : FT 3 enc1 Value.bool b.sn false g W') : CkAt F A1 A2 O c1 c2 co fl b pm pr { c with sn := g } W' := by
 obtain ⟨⟨n0_1, n0_2, n0_3, n0_4, n0_5, n0_6, n0_7, n0_8, n0_9, n0_10, n0_11, n0_12⟩, ⟨n1_2, n1_3, n1_4, n1_5, n1_6, n1_7, n1_8, n1_9, n1_10, n1_11, n1_12⟩, ⟨n2_3, n2_4, n2_5, n2_6, n2_7, n2_8, n2_9, n2_10, n2_11, n2_12⟩, ⟨n3_4, n3_5, n3_6, n3_7, n3_8, n3_9, n3_10, n3_11, n3_12⟩, ⟨n4_5, n4_6, n4_7, n4_8, n4_9, n4_10, n4_11, n4_12⟩, ⟨n5_6, n5_7, n5_8, n5_9, n5_10, n5_11, n5_12⟩, ⟨n6_7, n6_8, n6_9, n6_10, n6_11, n6_12⟩, ⟨n7_8, n7_9, n7_10, n7_11, n7_12⟩, ⟨n8_9, n8_10, n8_11, n8_12⟩, ⟨n9_10, n9_11, n9_12⟩, ⟨n10_11, n10_12⟩, n11_12⟩ := CkB.ne h.nd
 refine ⟨?_, h.nd, ?_⟩
 ·have := (hW b.cb n0_8 h.own.lt).trans h.own
  exact this
 ·exact ⟨h.m.pk.kept (hW _ n1_8 h.m.pk.lt), h.m.pr.kept (hW _ n2_8 h.m.pr.lt), h.m.dn.kept (hW _ n3_8 h.m.dn.lt), (hW _ n4_8 (Bl.lt h.m.st)).trans h.m.st, (hW _ n5_8 (Bl.lt h.m.en)).trans h.m.en, (hW _ n6_8 (Bl.lt h.m.ch)).trans h.m.ch, (hW _ n7_8 (Bl.lt h.m.up)).trans h.m.up, hr, h.m.sa.kept (hW _ (Ne.symm n8_9) h.m.sa.lt), h.m.ar.kept (hW _ (Ne.symm n8_10) h.m.ar.lt), h.m.fw.kept (hW _ (Ne.symm n8_11) h.m.fw.lt), h.m.cr.kept (hW _ (Ne.symm n8_12) h.m.cr.lt)⟩
theorem CkAt.on_sa (h : CkAt F A1 A2 O c1 c2 co fl b pm pr c W) (hW : ∀ k, k ≠ b.sa → k < W.heap.size → W'.heap[k]? = W.heap[k]?) (g : Int → Int → Int → Bool) (hr : FT 99 enc3 Value.bool b.sa false (fun p => g p.1 p.2.1 p.2.2) W') : CkAt F A1 A2 O c1 c2 co fl b pm pr { c with sa := g } W' := by
 obtain ⟨⟨n0_1, n0_2, n0_3, n0_4, n0_5, n0_6, n0_7, n0_8, n0_9, n0_10, n0_11, n0_12⟩, ⟨n1_2, n1_3, n1_4, n1_5, n1_6, n1_7, n1_8, n1_9, n1_10, n1_11, n1_12⟩, ⟨n2_3, n2_4, n2_5, n2_6, n2_7, n2_8, n2_9, n2_10, n2_11, n2_12⟩, ⟨n3_4, n3_5, n3_6, n3_7, n3_8, n3_9, n3_10, n3_11, n3_12⟩, ⟨n4_5, n4_6, n4_7, n4_8, n4_9, n4_10, n4_11, n4_12⟩, ⟨n5_6, n5_7, n5_8, n5_9, n5_10, n5_11, n5_12⟩, ⟨n6_7, n6_8, n6_9, n6_10, n6_11, n6_12⟩, ⟨n7_8, n7_9, n7_10, n7_11, n7_12⟩, ⟨n8_9, n8_10, n8_11, n8_12⟩, ⟨n9_10, n9_11, n9_12⟩, ⟨n10_11, n10_12⟩, n11_12⟩ := CkB.ne h.nd
 refine ⟨?_, h.nd, ?_⟩
 ·have := (hW b.cb n0_9 h.own.lt).trans h.own
  exact this
 ·exact ⟨h.m.pk.kept (hW _ n1_9 h.m.pk.lt), h.m.pr.kept (hW _ n2_9 h.m.pr.lt), h.m.dn.kept (hW _ n3_9 h.m.dn.lt), (hW _ n4_9 (Bl.lt h.m.st)).trans h.m.st, (hW _ n5_9 (Bl.lt h.m.en)).trans h.m.en, (hW _ n6_9 (Bl.lt h.m.ch)).trans h.m.ch, (hW _ n7_9 (Bl.lt h.m.up)).trans h.m.up, h.m.sn.kept (hW _ n8_9 h.m.sn.lt), hr, h.m.ar.kept (hW _ (Ne.symm n9_10) h.m.ar.lt), h.m.fw.kept (hW _ (Ne.symm n9_11) h.m.fw.lt), h.m.cr.kept (hW _ (Ne.symm n9_12) h.m.cr.lt)⟩
theorem CkAt.on_ar (h : CkAt F A1 A2 O c1 c2 co fl b pm pr c W) (hW : ∀ k, k ≠ b.ar → k < W.heap.size → W'.heap[k]? = W.heap[k]?) (g : Int → Int → Option Int) (hr : FM Tryz.prog 101 enc2 (Value.int .i64) b.ar (fun p => g p.1 p.2) W') : CkAt F A1 A2 O c1 c2 co fl b pm pr { c with ar := g } W' := by
 obtain ⟨⟨n0_1, n0_2, n0_3, n0_4, n0_5, n0_6, n0_7, n0_8, n0_9, n0_10, n0_11, n0_12⟩, ⟨n1_2, n1_3, n1_4, n1_5, n1_6, n1_7, n1_8, n1_9, n1_10, n1_11, n1_12⟩, ⟨n2_3, n2_4, n2_5, n2_6, n2_7, n2_8, n2_9, n2_10, n2_11, n2_12⟩, ⟨n3_4, n3_5, n3_6, n3_7, n3_8, n3_9, n3_10, n3_11, n3_12⟩, ⟨n4_5, n4_6, n4_7, n4_8, n4_9, n4_10, n4_11, n4_12⟩, ⟨n5_6, n5_7, n5_8, n5_9, n5_10, n5_11, n5_12⟩, ⟨n6_7, n6_8, n6_9, n6_10, n6_11, n6_12⟩, ⟨n7_8, n7_9, n7_10, n7_11, n7_12⟩, ⟨n8_9, n8_10, n8_11, n8_12⟩, ⟨n9_10, n9_11, n9_12⟩, ⟨n10_11, n10_12⟩, n11_12⟩ := CkB.ne h.nd
 refine ⟨?_, h.nd, ?_⟩
 ·have := (hW b.cb n0_10 h.own.lt).trans h.own
  exact this
 ·exact ⟨h.m.pk.kept (hW _ n1_10 h.m.pk.lt), h.m.pr.kept (hW _ n2_10 h.m.pr.lt), h.m.dn.kept (hW _ n3_10 h.m.dn.lt), (hW _ n4_10 (Bl.lt h.m.st)).trans h.m.st, (hW _ n5_10 (Bl.lt h.m.en)).trans h.m.en, (hW _ n6_10 (Bl.lt h.m.ch)).trans h.m.ch, (hW _ n7_10 (Bl.lt h.m.up)).trans h.m.up, h.m.sn.kept (hW _ n8_10 h.m.sn.lt), h.m.sa.kept (hW _ n9_10 h.m.sa.lt), hr, h.m.fw.kept (hW _ (Ne.symm n10_11) h.m.fw.lt), h.m.cr.kept (hW _ (Ne.symm n10_12) h.m.cr.lt)⟩
theorem CkAt.on_fw (h : CkAt F A1 A2 O c1 c2 co fl b pm pr c W) (hW : ∀ k, k ≠ b.fw → k < W.heap.size → W'.heap[k]? = W.heap[k]?) (g : Int → Int → Int → Bool) (hr : FT 104 enc3 Value.bool b.fw false (fun p => g p.1 p.2.1 p.2.2) W') : CkAt F A1 A2 O c1 c2 co fl b pm pr { c with fw := g } W' := by
 obtain ⟨⟨n0_1, n0_2, n0_3, n0_4, n0_5, n0_6, n0_7, n0_8, n0_9, n0_10, n0_11, n0_12⟩, ⟨n1_2, n1_3, n1_4, n1_5, n1_6, n1_7, n1_8, n1_9, n1_10, n1_11, n1_12⟩, ⟨n2_3, n2_4, n2_5, n2_6, n2_7, n2_8, n2_9, n2_10, n2_11, n2_12⟩, ⟨n3_4, n3_5, n3_6, n3_7, n3_8, n3_9, n3_10, n3_11, n3_12⟩, ⟨n4_5, n4_6, n4_7, n4_8, n4_9, n4_10, n4_11, n4_12⟩, ⟨n5_6, n5_7, n5_8, n5_9, n5_10, n5_11, n5_12⟩, ⟨n6_7, n6_8, n6_9, n6_10, n6_11, n6_12⟩, ⟨n7_8, n7_9, n7_10, n7_11, n7_12⟩, ⟨n8_9, n8_10, n8_11, n8_12⟩, ⟨n9_10, n9_11, n9_12⟩, ⟨n10_11, n10_12⟩, n11_12⟩ := CkB.ne h.nd
 refine ⟨?_, h.nd, ?_⟩
 ·have := (hW b.cb n0_11 h.own.lt).trans h.own
  exact this
 ·exact ⟨h.m.pk.kept (hW _ n1_11 h.m.pk.lt), h.m.pr.kept (hW _ n2_11 h.m.pr.lt), h.m.dn.kept (hW _ n3_11 h.m.dn.lt), (hW _ n4_11 (Bl.lt h.m.st)).trans h.m.st, (hW _ n5_11 (Bl.lt h.m.en)).trans h.m.en, (hW _ n6_11 (Bl.lt h.m.ch)).trans h.m.ch, (hW _ n7_11 (Bl.lt h.m.up)).trans h.m.up, h.m.sn.kept (hW _ n8_11 h.m.sn.lt), h.m.sa.kept (hW _ n9_11 h.m.sa.lt), h.m.ar.kept (hW _ n10_11 h.m.ar.lt), hr, h.m.cr.kept (hW _ (Ne.symm n11_12) h.m.cr.lt)⟩
theorem CkAt.on_cr (h : CkAt F A1 A2 O c1 c2 co fl b pm pr c W) (hW : ∀ k, k ≠ b.cr → k < W.heap.size → W'.heap[k]? = W.heap[k]?) (g : Int → Int → Int) (hr : FT 106 enc2 (Value.int .i64) b.cr 0 (fun p => g p.1 p.2) W') : CkAt F A1 A2 O c1 c2 co fl b pm pr { c with cr := g } W' := by
 obtain ⟨⟨n0_1, n0_2, n0_3, n0_4, n0_5, n0_6, n0_7, n0_8, n0_9, n0_10, n0_11, n0_12⟩, ⟨n1_2, n1_3, n1_4, n1_5, n1_6, n1_7, n1_8, n1_9, n1_10, n1_11, n1_12⟩, ⟨n2_3, n2_4, n2_5, n2_6, n2_7, n2_8, n2_9, n2_10, n2_11, n2_12⟩, ⟨n3_4, n3_5, n3_6, n3_7, n3_8, n3_9, n3_10, n3_11, n3_12⟩, ⟨n4_5, n4_6, n4_7, n4_8, n4_9, n4_10, n4_11, n4_12⟩, ⟨n5_6, n5_7, n5_8, n5_9, n5_10, n5_11, n5_12⟩, ⟨n6_7, n6_8, n6_9, n6_10, n6_11, n6_12⟩, ⟨n7_8, n7_9, n7_10, n7_11, n7_12⟩, ⟨n8_9, n8_10, n8_11, n8_12⟩, ⟨n9_10, n9_11, n9_12⟩, ⟨n10_11, n10_12⟩, n11_12⟩ := CkB.ne h.nd
 refine ⟨?_, h.nd, ?_⟩
 ·have := (hW b.cb n0_12 h.own.lt).trans h.own
  exact this
 ·exact ⟨h.m.pk.kept (hW _ n1_12 h.m.pk.lt), h.m.pr.kept (hW _ n2_12 h.m.pr.lt), h.m.dn.kept (hW _ n3_12 h.m.dn.lt), (hW _ n4_12 (Bl.lt h.m.st)).trans h.m.st, (hW _ n5_12 (Bl.lt h.m.en)).trans h.m.en, (hW _ n6_12 (Bl.lt h.m.ch)).trans h.m.ch, (hW _ n7_12 (Bl.lt h.m.up)).trans h.m.up, h.m.sn.kept (hW _ n8_12 h.m.sn.lt), h.m.sa.kept (hW _ n9_12 h.m.sa.lt), h.m.ar.kept (hW _ n10_12 h.m.ar.lt), h.m.fw.kept (hW _ n11_12 h.m.fw.lt), hr⟩
theorem CkAt.q0 (h : CkAt F A1 A2 O c1 c2 co fl b pm pr c W) : W.cell? ⟨b.cb, 0, none⟩ = some (.int .i64 F.t.n) := h.own.cell 0 rfl
theorem CkAt.q1 (h : CkAt F A1 A2 O c1 c2 co fl b pm pr c W) : W.cell? ⟨b.cb, 1, none⟩ = some (.slice A1 F.t.ov.length c1) := h.own.cell 1 rfl
theorem CkAt.q2 (h : CkAt F A1 A2 O c1 c2 co fl b pm pr c W) : W.cell? ⟨b.cb, 2, none⟩ = some (.slice A2 F.t.ls.length c2) := h.own.cell 2 rfl
theorem CkAt.q3 (h : CkAt F A1 A2 O c1 c2 co fl b pm pr c W) : W.cell? ⟨b.cb, 3, none⟩ = some (.int .i64 F.det) := h.own.cell 3 rfl
theorem CkAt.q4 (h : CkAt F A1 A2 O c1 c2 co fl b pm pr c W) : W.cell? ⟨b.cb, 4, none⟩ = some (.int .i64 F.ga) := h.own.cell 4 rfl
theorem CkAt.q5 (h : CkAt F A1 A2 O c1 c2 co fl b pm pr c W) : W.cell? ⟨b.cb, 5, none⟩ = some (.int .i64 F.ho) := h.own.cell 5 rfl
theorem CkAt.q6 (h : CkAt F A1 A2 O c1 c2 co fl b pm pr c W) : W.cell? ⟨b.cb, 6, none⟩ = some (.slice O F.out.length co) := h.own.cell 6 rfl
theorem CkAt.q7 (h : CkAt F A1 A2 O c1 c2 co fl b pm pr c W) : W.cell? ⟨b.cb, 7, none⟩ = some (.map (some b.pk)) := h.own.cell 7 rfl
theorem CkAt.q8 (h : CkAt F A1 A2 O c1 c2 co fl b pm pr c W) : W.cell? ⟨b.cb, 8, none⟩ = some (.map (some b.pr)) := h.own.cell 8 rfl
theorem CkAt.q9 (h : CkAt F A1 A2 O c1 c2 co fl b pm pr c W) : W.cell? ⟨b.cb, 9, none⟩ = some (fl) := h.own.cell 9 rfl
theorem CkAt.q10 (h : CkAt F A1 A2 O c1 c2 co fl b pm pr c W) : W.cell? ⟨b.cb, 10, none⟩ = some (.map (some b.dn)) := h.own.cell 10 rfl
theorem CkAt.q11 (h : CkAt F A1 A2 O c1 c2 co fl b pm pr c W) : W.cell? ⟨b.cb, 11, none⟩ = some (.slice (some ⟨b.st, 0, none⟩) c.st.length c.st.length) := h.own.cell 11 rfl
theorem CkAt.q12 (h : CkAt F A1 A2 O c1 c2 co fl b pm pr c W) : W.cell? ⟨b.cb, 12, none⟩ = some (.slice (some ⟨b.en, 0, none⟩) c.en.length c.en.length) := h.own.cell 12 rfl
theorem CkAt.q13 (h : CkAt F A1 A2 O c1 c2 co fl b pm pr c W) : W.cell? ⟨b.cb, 13, none⟩ = some (.slice (some ⟨b.ch, 0, none⟩) c.ch.length c.ch.length) := h.own.cell 13 rfl
theorem CkAt.q14 (h : CkAt F A1 A2 O c1 c2 co fl b pm pr c W) : W.cell? ⟨b.cb, 14, none⟩ = some (.slice (some ⟨b.up, 0, none⟩) c.up.length c.up.length) := h.own.cell 14 rfl
theorem CkAt.q15 (h : CkAt F A1 A2 O c1 c2 co fl b pm pr c W) : W.cell? ⟨b.cb, 15, none⟩ = some (.map (some b.sn)) := h.own.cell 15 rfl
theorem CkAt.q16 (h : CkAt F A1 A2 O c1 c2 co fl b pm pr c W) : W.cell? ⟨b.cb, 16, none⟩ = some (.map (some b.sa)) := h.own.cell 16 rfl
theorem CkAt.q17 (h : CkAt F A1 A2 O c1 c2 co fl b pm pr c W) : W.cell? ⟨b.cb, 17, none⟩ = some (.map (some b.ar)) := h.own.cell 17 rfl
theorem CkAt.q18 (h : CkAt F A1 A2 O c1 c2 co fl b pm pr c W) : W.cell? ⟨b.cb, 18, none⟩ = some (.map (some b.fw)) := h.own.cell 18 rfl
theorem CkAt.q19 (h : CkAt F A1 A2 O c1 c2 co fl b pm pr c W) : W.cell? ⟨b.cb, 19, none⟩ = some (.map (some b.cr)) := h.own.cell 19 rfl
end
/-- make: the worlds behind it. -/
theorem arr_made (v : Value) (n : Nat) : madeCells #[v] n = (List.replicate n v).toArray := by
 apply Array.ext'
 rw [toList_madeCells_one]
theorem run_mkIV (n : Nat) (x : Int) (hx : x = (n : Int)) (h : n ≤ 1000000) (w : World) : (Instr.makeSlice 63 (.int .i64 x) (.int .i64 x)).run Tryz.prog w = .ok (.slice (some ⟨w.heap.size, 0, none⟩) n n) (w.alloc (.cells (List.replicate n (.int .i64 0)).toArray 3)) := by
 subst hx
 rw [run_mkI n h w, mkI, arr_made]
theorem boolInfoV : (Tryz.prog.info? 4).map (fun i => (i.zero, i.size, i.bytes)) = some (some (.bool false), 1, 1) := by kernel_rfl
theorem run_mkBV (n : Nat) (x : Int) (hx : x = (n : Int)) (h : n ≤ 1000000) (w : World) : (Instr.makeSlice 22 (.int .i64 x) (.int .i64 x)).run Tryz.prog w = .ok (.slice (some ⟨w.heap.size, 0, none⟩) n n) (w.alloc (.cells (List.replicate n (.bool false)).toArray 4)) := by
 subst hx
 obtain ⟨i0, hi, hz0, hz1, hz2⟩ := info_parts boolInfoV
 have hr := run_make (P := Tryz.prog) w 22 4 i0 (.bool false) Tryz.underlying22 hi hz0 .i64 .i64 (n : Int) (n : Int) (by omega) (Int.le_refl _) (by rw [hz2]; omega) (by omega)
 rw [hr, hz1, show ((n : Int)).toNat = n by omega, Nat.mul_one]
 show Result.ok _ (w.alloc (.cells (madeCells #[.bool false] n) 4)) = _
 rw [arr_made]
/-- What the operations of the region make: by their numbers. -/
def vQ (N M : Nat) : Nat → Option Obj
 | 1 => some (.map #[] 0)
 | 2 => some (.map #[] 0)
 | 3 => some (.map #[] 0)
 | 6 => some (.cells (List.replicate N (.int .i64 0)).toArray 3)
 | 9 => some (.cells (List.replicate N (.int .i64 0)).toArray 3)
 | 12 => some (.cells (List.replicate N (.int .i64 0)).toArray 3)
 | 15 => some (.cells (List.replicate M (.bool false)).toArray 4)
 | 16 => some (.map #[] 0)
 | 17 => some (.map #[] 0)
 | 18 => some (.map #[] 0)
 | 19 => some (.map #[] 0)
 | 20 => some (.map #[] 0)
 | _ => none
def ncV (f0 tv : Value) (tb N M : Nat) (n m : Int) : Nat → Nat → Value
 | 0, _ => f0
 | 1, x => .map (some x)
 | 2, x => .map (some x)
 | 3, x => .map (some x)
 | 4, _ => .pointer (some ⟨tb, 0, none⟩)
 | 5, _ => .int .i64 n
 | 6, x => .slice (some ⟨x, 0, none⟩) N N
 | 7, _ => .pointer (some ⟨tb, 0, none⟩)
 | 8, _ => .int .i64 n
 | 9, x => .slice (some ⟨x, 0, none⟩) N N
 | 10, _ => .pointer (some ⟨tb, 0, none⟩)
 | 11, _ => .int .i64 n
 | 12, x => .slice (some ⟨x, 0, none⟩) N N
 | 13, _ => tv
 | 14, _ => .int .i64 m
 | 15, x => .slice (some ⟨x, 0, none⟩) M M
 | 16, x => .map (some x)
 | 17, x => .map (some x)
 | 18, x => .map (some x)
 | 19, x => .map (some x)
 | 20, x => .map (some x)
 | _, _ => undef
section
variable {w : World}
set_option maxRecDepth 100000 in
set_option maxHeartbeats 8000000 in
theorem vy_newChecker (F : FaN) (A1 A2 O : Option Addr) (c1 c2 co : Nat) (hT : TAt w A1 A2 F.t) (hv : valid F.t = true) :
    Calls Tryz.prog 16 #[.agg #[.int .i64 F.t.n, .slice A1 F.t.ov.length c1, .slice A2 F.t.ls.length c2, .int .i64 F.det, .int .i64 F.ga, .int .i64 F.ho, .slice O F.out.length co]] w fun e w' => ∃ b : CkB, e = .returned (.pointer (some ⟨b.cb, 0, none⟩)) ∧ CkAt F A1 A2 O c1 c2 co (.slice none 0 0) b (fun _ => none) (fun _ => false) (CkS.new F.t) w' ∧ (∀ k ∈ b.L, w.heap.size ≤ k) ∧ Below w.heap.size w w' := by
 obtain ⟨t, det, ga, ho, out⟩ := F
 simp only at *
 have hN := iZ hv
 have hL := zQ hv
 obtain ⟨N, hNe⟩ : ∃ N : Nat, t.n = (N : Int) := ⟨t.n.toNat, by omega⟩
 have HNE := hU hNe
 have HN := hU hN
 have HL := hU hL
 have HT := hU hT
 clear hT hN hNe hv
 go_enter Tryz.func16, Tryz.ntmps16
 go_upto_region 2 with fail
 refine kQ (fun X => VBox w A1 A2 O c1 c2 out.length co t det ga ho X) ⟨(Bl.new w _ _).up (cQ _ _), by simpa using Bl.new (w.alloc (.cells #[.int .i64 t.n, .slice A1 t.ov.length c1, .slice A2 t.ls.length c2, .int .i64 det, .int .i64 ga, .int .i64 ho, .slice O out.length co] 28)) _ _, HT.out.below (aZ w _ _), aZ w _ _⟩ ?_
 intro X hX
 have HX := hU hX
 clear hX
 have HXD := hU (HX.out.up (show Below X.heap.size X X.drew from ⟨rfl, rfl, rfl, Nat.le_refl _, fun _ _ => rfl⟩))
 refine wp_region_mk 21 (fun i => i + 8) (vQ N (2 * t.ls.length)) (ncV (.agg #[.int .i64 t.n, .slice A1 t.ov.length c1, .slice A2 t.ls.length c2, .int .i64 det, .int .i64 ga, .int .i64 ho, .slice O out.length co]) (.agg #[.int .i64 t.n, .slice A1 t.ov.length c1, .slice A2 t.ls.length c2]) (w.heap.size + 1) N (2 * t.ls.length) t.n (2 * (t.ls.length : Int))) (by kernel_rfl) (by kernel_rfl) (fun i j _ _ h => by omega) (fun i hi => by simp; omega) ?_ ?_
 ·intro L b W x i hi hst hr
  have HXW := hU (HXD.out.up hst.below)
  obtain ⟨f0, f1, f2, f3, f4, f5, f6, _⟩ := HXW.out.fb.c7
  obtain ⟨b0, b1, b2, _⟩ := HXW.out.tb.c3
  have t1 : b.tmps.getD 1 undef = .pointer (some ⟨w.heap.size, 0, none⟩) := (hst.old 1 (fun i _ => by omega)).trans rfl
  have t3 : b.tmps.getD 3 undef = .pointer (some ⟨w.heap.size + 1, 0, none⟩) := (hst.old 3 (fun i _ => by omega)).trans rfl
  match i, hi, hr with
  | 0, _, hr =>
   intro K hK
   clear hst hr
   refine iQ _ rfl rfl ?_
   go_simp
   exact hK _ (Below.refl _ _)
  | 1, _, hr =>
   intro K hK
   clear hst hr
   have hmm := @run_makeMap Tryz.prog
   refine iQ _ rfl rfl ?_
   go_simp
   exact hK
  | 2, _, hr =>
   intro K hK
   clear hst hr
   have hmm := @run_makeMap Tryz.prog
   refine iQ _ rfl rfl ?_
   go_simp
   exact hK
  | 3, _, hr =>
   intro K hK
   clear hst hr
   have hmm := @run_makeMap Tryz.prog
   refine iQ _ rfl rfl ?_
   go_simp
   exact hK
  | 4, _, hr =>
   intro K hK
   clear hst hr
   refine iQ _ rfl rfl ?_
   go_simp
   exact hK _ (Below.refl _ _)
  | 5, _, hr =>
   intro K hK
   have t12 : b.tmps.getD 12 undef = .pointer (some ⟨w.heap.size + 1, 0, none⟩) := hst.val 4 (by omega) (rU hr 4)
   clear hst hr
   refine iQ _ rfl rfl ?_
   go_simp
   exact hK _ (Below.refl _ _)
  | 6, _, hr =>
   intro K hK
   have t13 : b.tmps.getD 13 undef = .int .i64 t.n := hst.val 5 (by omega) (rU hr 5)
   clear hst hr
   have hmk := run_mkIV N t.n HNE.out (by have := HN.out; have := HNE.out; omega) W
   refine iQ _ rfl rfl ?_
   go_simp
   exact hK
  | 7, _, hr =>
   intro K hK
   clear hst hr
   refine iQ _ rfl rfl ?_
   go_simp
   exact hK _ (Below.refl _ _)
  | 8, _, hr =>
   intro K hK
   have t15 : b.tmps.getD 15 undef = .pointer (some ⟨w.heap.size + 1, 0, none⟩) := hst.val 7 (by omega) (rU hr 7)
   clear hst hr
   refine iQ _ rfl rfl ?_
   go_simp
   exact hK _ (Below.refl _ _)
  | 9, _, hr =>
   intro K hK
   have t16 : b.tmps.getD 16 undef = .int .i64 t.n := hst.val 8 (by omega) (rU hr 8)
   clear hst hr
   have hmk := run_mkIV N t.n HNE.out (by have := HN.out; have := HNE.out; omega) W
   refine iQ _ rfl rfl ?_
   go_simp
   exact hK
  | 10, _, hr =>
   intro K hK
   clear hst hr
   refine iQ _ rfl rfl ?_
   go_simp
   exact hK _ (Below.refl _ _)
  | 11, _, hr =>
   intro K hK
   have t18 : b.tmps.getD 18 undef = .pointer (some ⟨w.heap.size + 1, 0, none⟩) := hst.val 10 (by omega) (rU hr 10)
   clear hst hr
   refine iQ _ rfl rfl ?_
   go_simp
   exact hK _ (Below.refl _ _)
  | 12, _, hr =>
   intro K hK
   have t19 : b.tmps.getD 19 undef = .int .i64 t.n := hst.val 11 (by omega) (rU hr 11)
   clear hst hr
   have hmk := run_mkIV N t.n HNE.out (by have := HN.out; have := HNE.out; omega) W
   refine iQ _ rfl rfl ?_
   go_simp
   exact hK
  | 13, _, hr =>
   intro K hK
   clear hst hr
   refine iQ _ rfl rfl ?_
   go_simp
   exact hK _ (Below.refl _ _)
  | 14, _, hr =>
   intro K hK
   have t21 : b.tmps.getD 21 undef = .agg #[.int .i64 t.n, .slice A1 t.ov.length c1, .slice A2 t.ls.length c2] := hst.val 13 (by omega) (rU hr 13)
   clear hst hr
   refine iQ _ rfl rfl ?_
   go_simp
   refine (graph_Arcs _ _ _ _ _ _ (by have := HL.out; omega)).mono ?_
   rintro e w9 ⟨rfl, hb⟩
   exact hK w9 hb
  | 15, _, hr =>
   intro K hK
   have t22 : b.tmps.getD 22 undef = .int .i64 (2 * (t.ls.length : Int)) := hst.val 14 (by omega) (rU hr 14)
   clear hst hr
   have hmk := run_mkBV (2 * t.ls.length) (2 * (t.ls.length : Int)) (by omega) (by have := HL.out; omega) W
   refine iQ _ rfl rfl ?_
   go_simp
   exact hK
  | 16, _, hr =>
   intro K hK
   clear hst hr
   have hmm := @run_makeMap Tryz.prog
   refine iQ _ rfl rfl ?_
   go_simp
   exact hK
  | 17, _, hr =>
   intro K hK
   clear hst hr
   have hmm := @run_makeMap Tryz.prog
   refine iQ _ rfl rfl ?_
   go_simp
   exact hK
  | 18, _, hr =>
   intro K hK
   clear hst hr
   have hmm := @run_makeMap Tryz.prog
   refine iQ _ rfl rfl ?_
   go_simp
   exact hK
  | 19, _, hr =>
   intro K hK
   clear hst hr
   have hmm := @run_makeMap Tryz.prog
   refine iQ _ rfl rfl ?_
   go_simp
   exact hK
  | 20, _, hr =>
   intro K hK
   clear hst hr
   have hmm := @run_makeMap Tryz.prog
   refine iQ _ rfl rfl ?_
   go_simp
   exact hK
  | n + 21, hi, _ => exact absurd hi (by omega)
 ·intro b W x hst
  have hbe : b = { tmps := #[.agg #[.int .i64 t.n, .slice A1 t.ov.length c1, .slice A2 t.ls.length c2, .int .i64 det, .int .i64 ga, .int .i64 ho, .slice O out.length co], .pointer (some ⟨w.heap.size, 0, none⟩), .pointer none, .pointer (some ⟨w.heap.size + 1, 0, none⟩), undef, undef, .pointer (some ⟨w.heap.size, 0, none⟩), .agg #[.int .i64 t.n, .slice A1 t.ov.length c1, .slice A2 t.ls.length c2], .agg #[.int .i64 t.n, .slice A1 t.ov.length c1, .slice A2 t.ls.length c2, .int .i64 det, .int .i64 ga, .int .i64 ho, .slice O out.length co], .map (some (x 1)), .map (some (x 2)), .map (some (x 3)), .pointer (some ⟨w.heap.size + 1, 0, none⟩), .int .i64 t.n, .slice (some ⟨x 6, 0, none⟩) N N, .pointer (some ⟨w.heap.size + 1, 0, none⟩), .int .i64 t.n, .slice (some ⟨x 9, 0, none⟩) N N, .pointer (some ⟨w.heap.size + 1, 0, none⟩), .int .i64 t.n, .slice (some ⟨x 12, 0, none⟩) N N, .agg #[.int .i64 t.n, .slice A1 t.ov.length c1, .slice A2 t.ls.length c2], .int .i64 (2 * (t.ls.length : Int)), .slice (some ⟨x 15, 0, none⟩) (2 * t.ls.length) (2 * t.ls.length), .map (some (x 16)), .map (some (x 17)), .map (some (x 18)), .map (some (x 19)), .map (some (x 20)), undef, undef, undef, undef, undef, undef, undef, undef, undef, undef, undef, undef, undef, undef, undef, undef, undef, undef], defers := [] } := by
   obtain ⟨tm, df⟩ := b
   have h1 : df = [] := hst.defers
   subst h1
   congr 1
   refine slots_eq (l := [.agg #[.int .i64 t.n, .slice A1 t.ov.length c1, .slice A2 t.ls.length c2, .int .i64 det, .int .i64 ga, .int .i64 ho, .slice O out.length co], .pointer (some ⟨w.heap.size, 0, none⟩), .pointer none, .pointer (some ⟨w.heap.size + 1, 0, none⟩), undef, undef, .pointer (some ⟨w.heap.size, 0, none⟩), .agg #[.int .i64 t.n, .slice A1 t.ov.length c1, .slice A2 t.ls.length c2], .agg #[.int .i64 t.n, .slice A1 t.ov.length c1, .slice A2 t.ls.length c2, .int .i64 det, .int .i64 ga, .int .i64 ho, .slice O out.length co], .map (some (x 1)), .map (some (x 2)), .map (some (x 3)), .pointer (some ⟨w.heap.size + 1, 0, none⟩), .int .i64 t.n, .slice (some ⟨x 6, 0, none⟩) N N, .pointer (some ⟨w.heap.size + 1, 0, none⟩), .int .i64 t.n, .slice (some ⟨x 9, 0, none⟩) N N, .pointer (some ⟨w.heap.size + 1, 0, none⟩), .int .i64 t.n, .slice (some ⟨x 12, 0, none⟩) N N, .agg #[.int .i64 t.n, .slice A1 t.ov.length c1, .slice A2 t.ls.length c2], .int .i64 (2 * (t.ls.length : Int)), .slice (some ⟨x 15, 0, none⟩) (2 * t.ls.length) (2 * t.ls.length), .map (some (x 16)), .map (some (x 17)), .map (some (x 18)), .map (some (x 19)), .map (some (x 20)), undef, undef, undef, undef, undef, undef, undef, undef, undef, undef, undef, undef, undef, undef, undef, undef, undef, undef]) hst.size (fun j hj => ?_)
   match j, hj with
   | 0, _ => exact (hst.old 0 (fun i _ => by omega)).trans rfl
   | 1, _ => exact (hst.old 1 (fun i _ => by omega)).trans rfl
   | 2, _ => exact (hst.old 2 (fun i _ => by omega)).trans rfl
   | 3, _ => exact (hst.old 3 (fun i _ => by omega)).trans rfl
   | 4, _ => exact (hst.old 4 (fun i _ => by omega)).trans rfl
   | 5, _ => exact (hst.old 5 (fun i _ => by omega)).trans rfl
   | 6, _ => exact (hst.old 6 (fun i _ => by omega)).trans rfl
   | 7, _ => exact (hst.old 7 (fun i _ => by omega)).trans rfl
   | 8, _ => exact hst.val 0 (by omega) (dQ (by omega))
   | 9, _ => exact hst.val 1 (by omega) (dQ (by omega))
   | 10, _ => exact hst.val 2 (by omega) (dQ (by omega))
   | 11, _ => exact hst.val 3 (by omega) (dQ (by omega))
   | 12, _ => exact hst.val 4 (by omega) (dQ (by omega))
   | 13, _ => exact hst.val 5 (by omega) (dQ (by omega))
   | 14, _ => exact hst.val 6 (by omega) (dQ (by omega))
   | 15, _ => exact hst.val 7 (by omega) (dQ (by omega))
   | 16, _ => exact hst.val 8 (by omega) (dQ (by omega))
   | 17, _ => exact hst.val 9 (by omega) (dQ (by omega))
   | 18, _ => exact hst.val 10 (by omega) (dQ (by omega))
   | 19, _ => exact hst.val 11 (by omega) (dQ (by omega))
   | 20, _ => exact hst.val 12 (by omega) (dQ (by omega))
   | 21, _ => exact hst.val 13 (by omega) (dQ (by omega))
   | 22, _ => exact hst.val 14 (by omega) (dQ (by omega))
   | 23, _ => exact hst.val 15 (by omega) (dQ (by omega))
   | 24, _ => exact hst.val 16 (by omega) (dQ (by omega))
   | 25, _ => exact hst.val 17 (by omega) (dQ (by omega))
   | 26, _ => exact hst.val 18 (by omega) (dQ (by omega))
   | 27, _ => exact hst.val 19 (by omega) (dQ (by omega))
   | 28, _ => exact hst.val 20 (by omega) (dQ (by omega))
   | 29, _ => exact (hst.old 29 (fun i _ => by omega)).trans rfl
   | 30, _ => exact (hst.old 30 (fun i _ => by omega)).trans rfl
   | 31, _ => exact (hst.old 31 (fun i _ => by omega)).trans rfl
   | 32, _ => exact (hst.old 32 (fun i _ => by omega)).trans rfl
   | 33, _ => exact (hst.old 33 (fun i _ => by omega)).trans rfl
   | 34, _ => exact (hst.old 34 (fun i _ => by omega)).trans rfl
   | 35, _ => exact (hst.old 35 (fun i _ => by omega)).trans rfl
   | 36, _ => exact (hst.old 36 (fun i _ => by omega)).trans rfl
   | 37, _ => exact (hst.old 37 (fun i _ => by omega)).trans rfl
   | 38, _ => exact (hst.old 38 (fun i _ => by omega)).trans rfl
   | 39, _ => exact (hst.old 39 (fun i _ => by omega)).trans rfl
   | 40, _ => exact (hst.old 40 (fun i _ => by omega)).trans rfl
   | 41, _ => exact (hst.old 41 (fun i _ => by omega)).trans rfl
   | 42, _ => exact (hst.old 42 (fun i _ => by omega)).trans rfl
   | 43, _ => exact (hst.old 43 (fun i _ => by omega)).trans rfl
   | 44, _ => exact (hst.old 44 (fun i _ => by omega)).trans rfl
   | 45, _ => exact (hst.old 45 (fun i _ => by omega)).trans rfl
   | 46, _ => exact (hst.old 46 (fun i _ => by omega)).trans rfl
   | j + 47, hj => exact absurd hj (by simp)
  subst hbe
  obtain ⟨l_pk, h_pk⟩ := hst.blk 1 _ (by omega) rfl (dQ (by omega))
  obtain ⟨l_pr, h_pr⟩ := hst.blk 2 _ (by omega) rfl (dQ (by omega))
  obtain ⟨l_dn, h_dn⟩ := hst.blk 3 _ (by omega) rfl (dQ (by omega))
  obtain ⟨l_st, h_st⟩ := hst.blk 6 _ (by omega) rfl (dQ (by omega))
  obtain ⟨l_en, h_en⟩ := hst.blk 9 _ (by omega) rfl (dQ (by omega))
  obtain ⟨l_ch, h_ch⟩ := hst.blk 12 _ (by omega) rfl (dQ (by omega))
  obtain ⟨l_up, h_up⟩ := hst.blk 15 _ (by omega) rfl (dQ (by omega))
  obtain ⟨l_sn, h_sn⟩ := hst.blk 16 _ (by omega) rfl (dQ (by omega))
  obtain ⟨l_sa, h_sa⟩ := hst.blk 17 _ (by omega) rfl (dQ (by omega))
  obtain ⟨l_ar, h_ar⟩ := hst.blk 18 _ (by omega) rfl (dQ (by omega))
  obtain ⟨l_fw, h_fw⟩ := hst.blk 19 _ (by omega) rfl (dQ (by omega))
  obtain ⟨l_cr, h_cr⟩ := hst.blk 20 _ (by omega) rfl (dQ (by omega))
  have d_pk_pr : x 1 ≠ x 2 := fun e => absurd (hst.inj 1 2 (by omega) (by omega) (by simp [vQ]) (by simp [vQ]) (dQ (by omega)) (dQ (by omega)) e) (by omega)
  have d_pk_dn : x 1 ≠ x 3 := fun e => absurd (hst.inj 1 3 (by omega) (by omega) (by simp [vQ]) (by simp [vQ]) (dQ (by omega)) (dQ (by omega)) e) (by omega)
  have d_pk_st : x 1 ≠ x 6 := fun e => absurd (hst.inj 1 6 (by omega) (by omega) (by simp [vQ]) (by simp [vQ]) (dQ (by omega)) (dQ (by omega)) e) (by omega)
  have d_pk_en : x 1 ≠ x 9 := fun e => absurd (hst.inj 1 9 (by omega) (by omega) (by simp [vQ]) (by simp [vQ]) (dQ (by omega)) (dQ (by omega)) e) (by omega)
  have d_pk_ch : x 1 ≠ x 12 := fun e => absurd (hst.inj 1 12 (by omega) (by omega) (by simp [vQ]) (by simp [vQ]) (dQ (by omega)) (dQ (by omega)) e) (by omega)
  have d_pk_up : x 1 ≠ x 15 := fun e => absurd (hst.inj 1 15 (by omega) (by omega) (by simp [vQ]) (by simp [vQ]) (dQ (by omega)) (dQ (by omega)) e) (by omega)
  have d_pk_sn : x 1 ≠ x 16 := fun e => absurd (hst.inj 1 16 (by omega) (by omega) (by simp [vQ]) (by simp [vQ]) (dQ (by omega)) (dQ (by omega)) e) (by omega)
  have d_pk_sa : x 1 ≠ x 17 := fun e => absurd (hst.inj 1 17 (by omega) (by omega) (by simp [vQ]) (by simp [vQ]) (dQ (by omega)) (dQ (by omega)) e) (by omega)
  have d_pk_ar : x 1 ≠ x 18 := fun e => absurd (hst.inj 1 18 (by omega) (by omega) (by simp [vQ]) (by simp [vQ]) (dQ (by omega)) (dQ (by omega)) e) (by omega)
  have d_pk_fw : x 1 ≠ x 19 := fun e => absurd (hst.inj 1 19 (by omega) (by omega) (by simp [vQ]) (by simp [vQ]) (dQ (by omega)) (dQ (by omega)) e) (by omega)
  have d_pk_cr : x 1 ≠ x 20 := fun e => absurd (hst.inj 1 20 (by omega) (by omega) (by simp [vQ]) (by simp [vQ]) (dQ (by omega)) (dQ (by omega)) e) (by omega)
  have d_pr_dn : x 2 ≠ x 3 := fun e => absurd (hst.inj 2 3 (by omega) (by omega) (by simp [vQ]) (by simp [vQ]) (dQ (by omega)) (dQ (by omega)) e) (by omega)
  have d_pr_st : x 2 ≠ x 6 := fun e => absurd (hst.inj 2 6 (by omega) (by omega) (by simp [vQ]) (by simp [vQ]) (dQ (by omega)) (dQ (by omega)) e) (by omega)
  have d_pr_en : x 2 ≠ x 9 := fun e => absurd (hst.inj 2 9 (by omega) (by omega) (by simp [vQ]) (by simp [vQ]) (dQ (by omega)) (dQ (by omega)) e) (by omega)
  have d_pr_ch : x 2 ≠ x 12 := fun e => absurd (hst.inj 2 12 (by omega) (by omega) (by simp [vQ]) (by simp [vQ]) (dQ (by omega)) (dQ (by omega)) e) (by omega)
  have d_pr_up : x 2 ≠ x 15 := fun e => absurd (hst.inj 2 15 (by omega) (by omega) (by simp [vQ]) (by simp [vQ]) (dQ (by omega)) (dQ (by omega)) e) (by omega)
  have d_pr_sn : x 2 ≠ x 16 := fun e => absurd (hst.inj 2 16 (by omega) (by omega) (by simp [vQ]) (by simp [vQ]) (dQ (by omega)) (dQ (by omega)) e) (by omega)
  have d_pr_sa : x 2 ≠ x 17 := fun e => absurd (hst.inj 2 17 (by omega) (by omega) (by simp [vQ]) (by simp [vQ]) (dQ (by omega)) (dQ (by omega)) e) (by omega)
  have d_pr_ar : x 2 ≠ x 18 := fun e => absurd (hst.inj 2 18 (by omega) (by omega) (by simp [vQ]) (by simp [vQ]) (dQ (by omega)) (dQ (by omega)) e) (by omega)
  have d_pr_fw : x 2 ≠ x 19 := fun e => absurd (hst.inj 2 19 (by omega) (by omega) (by simp [vQ]) (by simp [vQ]) (dQ (by omega)) (dQ (by omega)) e) (by omega)
  have d_pr_cr : x 2 ≠ x 20 := fun e => absurd (hst.inj 2 20 (by omega) (by omega) (by simp [vQ]) (by simp [vQ]) (dQ (by omega)) (dQ (by omega)) e) (by omega)
  have d_dn_st : x 3 ≠ x 6 := fun e => absurd (hst.inj 3 6 (by omega) (by omega) (by simp [vQ]) (by simp [vQ]) (dQ (by omega)) (dQ (by omega)) e) (by omega)
  have d_dn_en : x 3 ≠ x 9 := fun e => absurd (hst.inj 3 9 (by omega) (by omega) (by simp [vQ]) (by simp [vQ]) (dQ (by omega)) (dQ (by omega)) e) (by omega)
  have d_dn_ch : x 3 ≠ x 12 := fun e => absurd (hst.inj 3 12 (by omega) (by omega) (by simp [vQ]) (by simp [vQ]) (dQ (by omega)) (dQ (by omega)) e) (by omega)
  have d_dn_up : x 3 ≠ x 15 := fun e => absurd (hst.inj 3 15 (by omega) (by omega) (by simp [vQ]) (by simp [vQ]) (dQ (by omega)) (dQ (by omega)) e) (by omega)
  have d_dn_sn : x 3 ≠ x 16 := fun e => absurd (hst.inj 3 16 (by omega) (by omega) (by simp [vQ]) (by simp [vQ]) (dQ (by omega)) (dQ (by omega)) e) (by omega)
  have d_dn_sa : x 3 ≠ x 17 := fun e => absurd (hst.inj 3 17 (by omega) (by omega) (by simp [vQ]) (by simp [vQ]) (dQ (by omega)) (dQ (by omega)) e) (by omega)
  have d_dn_ar : x 3 ≠ x 18 := fun e => absurd (hst.inj 3 18 (by omega) (by omega) (by simp [vQ]) (by simp [vQ]) (dQ (by omega)) (dQ (by omega)) e) (by omega)
  have d_dn_fw : x 3 ≠ x 19 := fun e => absurd (hst.inj 3 19 (by omega) (by omega) (by simp [vQ]) (by simp [vQ]) (dQ (by omega)) (dQ (by omega)) e) (by omega)
  have d_dn_cr : x 3 ≠ x 20 := fun e => absurd (hst.inj 3 20 (by omega) (by omega) (by simp [vQ]) (by simp [vQ]) (dQ (by omega)) (dQ (by omega)) e) (by omega)
  have d_st_en : x 6 ≠ x 9 := fun e => absurd (hst.inj 6 9 (by omega) (by omega) (by simp [vQ]) (by simp [vQ]) (dQ (by omega)) (dQ (by omega)) e) (by omega)
  have d_st_ch : x 6 ≠ x 12 := fun e => absurd (hst.inj 6 12 (by omega) (by omega) (by simp [vQ]) (by simp [vQ]) (dQ (by omega)) (dQ (by omega)) e) (by omega)
  have d_st_up : x 6 ≠ x 15 := fun e => absurd (hst.inj 6 15 (by omega) (by omega) (by simp [vQ]) (by simp [vQ]) (dQ (by omega)) (dQ (by omega)) e) (by omega)
  have d_st_sn : x 6 ≠ x 16 := fun e => absurd (hst.inj 6 16 (by omega) (by omega) (by simp [vQ]) (by simp [vQ]) (dQ (by omega)) (dQ (by omega)) e) (by omega)
  have d_st_sa : x 6 ≠ x 17 := fun e => absurd (hst.inj 6 17 (by omega) (by omega) (by simp [vQ]) (by simp [vQ]) (dQ (by omega)) (dQ (by omega)) e) (by omega)
  have d_st_ar : x 6 ≠ x 18 := fun e => absurd (hst.inj 6 18 (by omega) (by omega) (by simp [vQ]) (by simp [vQ]) (dQ (by omega)) (dQ (by omega)) e) (by omega)
  have d_st_fw : x 6 ≠ x 19 := fun e => absurd (hst.inj 6 19 (by omega) (by omega) (by simp [vQ]) (by simp [vQ]) (dQ (by omega)) (dQ (by omega)) e) (by omega)
  have d_st_cr : x 6 ≠ x 20 := fun e => absurd (hst.inj 6 20 (by omega) (by omega) (by simp [vQ]) (by simp [vQ]) (dQ (by omega)) (dQ (by omega)) e) (by omega)
  have d_en_ch : x 9 ≠ x 12 := fun e => absurd (hst.inj 9 12 (by omega) (by omega) (by simp [vQ]) (by simp [vQ]) (dQ (by omega)) (dQ (by omega)) e) (by omega)
  have d_en_up : x 9 ≠ x 15 := fun e => absurd (hst.inj 9 15 (by omega) (by omega) (by simp [vQ]) (by simp [vQ]) (dQ (by omega)) (dQ (by omega)) e) (by omega)
  have d_en_sn : x 9 ≠ x 16 := fun e => absurd (hst.inj 9 16 (by omega) (by omega) (by simp [vQ]) (by simp [vQ]) (dQ (by omega)) (dQ (by omega)) e) (by omega)
  have d_en_sa : x 9 ≠ x 17 := fun e => absurd (hst.inj 9 17 (by omega) (by omega) (by simp [vQ]) (by simp [vQ]) (dQ (by omega)) (dQ (by omega)) e) (by omega)
  have d_en_ar : x 9 ≠ x 18 := fun e => absurd (hst.inj 9 18 (by omega) (by omega) (by simp [vQ]) (by simp [vQ]) (dQ (by omega)) (dQ (by omega)) e) (by omega)
  have d_en_fw : x 9 ≠ x 19 := fun e => absurd (hst.inj 9 19 (by omega) (by omega) (by simp [vQ]) (by simp [vQ]) (dQ (by omega)) (dQ (by omega)) e) (by omega)
  have d_en_cr : x 9 ≠ x 20 := fun e => absurd (hst.inj 9 20 (by omega) (by omega) (by simp [vQ]) (by simp [vQ]) (dQ (by omega)) (dQ (by omega)) e) (by omega)
  have d_ch_up : x 12 ≠ x 15 := fun e => absurd (hst.inj 12 15 (by omega) (by omega) (by simp [vQ]) (by simp [vQ]) (dQ (by omega)) (dQ (by omega)) e) (by omega)
  have d_ch_sn : x 12 ≠ x 16 := fun e => absurd (hst.inj 12 16 (by omega) (by omega) (by simp [vQ]) (by simp [vQ]) (dQ (by omega)) (dQ (by omega)) e) (by omega)
  have d_ch_sa : x 12 ≠ x 17 := fun e => absurd (hst.inj 12 17 (by omega) (by omega) (by simp [vQ]) (by simp [vQ]) (dQ (by omega)) (dQ (by omega)) e) (by omega)
  have d_ch_ar : x 12 ≠ x 18 := fun e => absurd (hst.inj 12 18 (by omega) (by omega) (by simp [vQ]) (by simp [vQ]) (dQ (by omega)) (dQ (by omega)) e) (by omega)
  have d_ch_fw : x 12 ≠ x 19 := fun e => absurd (hst.inj 12 19 (by omega) (by omega) (by simp [vQ]) (by simp [vQ]) (dQ (by omega)) (dQ (by omega)) e) (by omega)
  have d_ch_cr : x 12 ≠ x 20 := fun e => absurd (hst.inj 12 20 (by omega) (by omega) (by simp [vQ]) (by simp [vQ]) (dQ (by omega)) (dQ (by omega)) e) (by omega)
  have d_up_sn : x 15 ≠ x 16 := fun e => absurd (hst.inj 15 16 (by omega) (by omega) (by simp [vQ]) (by simp [vQ]) (dQ (by omega)) (dQ (by omega)) e) (by omega)
  have d_up_sa : x 15 ≠ x 17 := fun e => absurd (hst.inj 15 17 (by omega) (by omega) (by simp [vQ]) (by simp [vQ]) (dQ (by omega)) (dQ (by omega)) e) (by omega)
  have d_up_ar : x 15 ≠ x 18 := fun e => absurd (hst.inj 15 18 (by omega) (by omega) (by simp [vQ]) (by simp [vQ]) (dQ (by omega)) (dQ (by omega)) e) (by omega)
  have d_up_fw : x 15 ≠ x 19 := fun e => absurd (hst.inj 15 19 (by omega) (by omega) (by simp [vQ]) (by simp [vQ]) (dQ (by omega)) (dQ (by omega)) e) (by omega)
  have d_up_cr : x 15 ≠ x 20 := fun e => absurd (hst.inj 15 20 (by omega) (by omega) (by simp [vQ]) (by simp [vQ]) (dQ (by omega)) (dQ (by omega)) e) (by omega)
  have d_sn_sa : x 16 ≠ x 17 := fun e => absurd (hst.inj 16 17 (by omega) (by omega) (by simp [vQ]) (by simp [vQ]) (dQ (by omega)) (dQ (by omega)) e) (by omega)
  have d_sn_ar : x 16 ≠ x 18 := fun e => absurd (hst.inj 16 18 (by omega) (by omega) (by simp [vQ]) (by simp [vQ]) (dQ (by omega)) (dQ (by omega)) e) (by omega)
  have d_sn_fw : x 16 ≠ x 19 := fun e => absurd (hst.inj 16 19 (by omega) (by omega) (by simp [vQ]) (by simp [vQ]) (dQ (by omega)) (dQ (by omega)) e) (by omega)
  have d_sn_cr : x 16 ≠ x 20 := fun e => absurd (hst.inj 16 20 (by omega) (by omega) (by simp [vQ]) (by simp [vQ]) (dQ (by omega)) (dQ (by omega)) e) (by omega)
  have d_sa_ar : x 17 ≠ x 18 := fun e => absurd (hst.inj 17 18 (by omega) (by omega) (by simp [vQ]) (by simp [vQ]) (dQ (by omega)) (dQ (by omega)) e) (by omega)
  have d_sa_fw : x 17 ≠ x 19 := fun e => absurd (hst.inj 17 19 (by omega) (by omega) (by simp [vQ]) (by simp [vQ]) (dQ (by omega)) (dQ (by omega)) e) (by omega)
  have d_sa_cr : x 17 ≠ x 20 := fun e => absurd (hst.inj 17 20 (by omega) (by omega) (by simp [vQ]) (by simp [vQ]) (dQ (by omega)) (dQ (by omega)) e) (by omega)
  have d_ar_fw : x 18 ≠ x 19 := fun e => absurd (hst.inj 18 19 (by omega) (by omega) (by simp [vQ]) (by simp [vQ]) (dQ (by omega)) (dQ (by omega)) e) (by omega)
  have d_ar_cr : x 18 ≠ x 20 := fun e => absurd (hst.inj 18 20 (by omega) (by omega) (by simp [vQ]) (by simp [vQ]) (dQ (by omega)) (dQ (by omega)) e) (by omega)
  have d_fw_cr : x 19 ≠ x 20 := fun e => absurd (hst.inj 19 20 (by omega) (by omega) (by simp [vQ]) (by simp [vQ]) (dQ (by omega)) (dQ (by omega)) e) (by omega)
  have hXW := HXD.out.up hst.below
  clear hst
  generalize x 1 = x_pk at *
  generalize x 2 = x_pr at *
  generalize x 3 = x_dn at *
  generalize x 6 = x_st at *
  generalize x 9 = x_en at *
  generalize x 12 = x_ch at *
  generalize x 15 = x_up at *
  generalize x 16 = x_sn at *
  generalize x 17 = x_sa at *
  generalize x 18 = x_ar at *
  generalize x 19 = x_fw at *
  generalize x 20 = x_cr at *
  have hNt : t.n.toNat = N := by have := HNE.out; omega
  have hWs : X.drew.heap.size ≤ W.heap.size := by have := lt_blk h_pk; omega
  have hXs : w.heap.size ≤ X.drew.heap.size := HXD.out.b.size
  have hM : CkM ⟨W.heap.size, x_pk, x_pr, x_dn, x_st, x_en, x_ch, x_up, x_sn, x_sa, x_ar, x_fw, x_cr⟩ (fun _ => none) (fun _ => false) { CkS.new t with st := fill3 N 0 } W :=
   ⟨FM.ofHeap h_pk, FT.ofHeap h_pr, FT.ofHeap h_dn, by rw [fill3_zero]; simpa [RowI, Bl, List.map_replicate] using h_st, by simpa [RowI, Bl, CkS.new, List.map_replicate, hNt] using h_en, by simpa [RowI, Bl, CkS.new, List.map_replicate, hNt] using h_ch, by simpa [RowB, Bl, CkS.new, List.map_replicate] using h_up, FT.ofHeap h_sn, FT.ofHeap h_sa, FM.ofHeap h_ar, FT.ofHeap h_fw, FT.ofHeap h_cr⟩
  have hnd : CkB.L ⟨W.heap.size, x_pk, x_pr, x_dn, x_st, x_en, x_ch, x_up, x_sn, x_sa, x_ar, x_fw, x_cr⟩ |>.Nodup := by
   have p1 := lt_blk h_pk; have p2 := lt_blk h_pr; have p3 := lt_blk h_dn; have p4 := lt_blk h_st; have p5 := lt_blk h_en; have p6 := lt_blk h_ch; have p7 := lt_blk h_up; have p8 := lt_blk h_sn; have p9 := lt_blk h_sa; have p10 := lt_blk h_ar; have p11 := lt_blk h_fw; have p12 := lt_blk h_cr
   simp only [CkB.L, List.nodup_cons, List.mem_cons, List.not_mem_nil, or_false, not_or, not_false_eq_true, List.nodup_nil, and_true]
   refine ⟨⟨by omega, by omega, by omega, by omega, by omega, by omega, by omega, by omega, by omega, by omega, by omega, by omega⟩, ⟨d_pk_pr, d_pk_dn, d_pk_st, d_pk_en, d_pk_ch, d_pk_up, d_pk_sn, d_pk_sa, d_pk_ar, d_pk_fw, d_pk_cr⟩, ⟨d_pr_dn, d_pr_st, d_pr_en, d_pr_ch, d_pr_up, d_pr_sn, d_pr_sa, d_pr_ar, d_pr_fw, d_pr_cr⟩, ⟨d_dn_st, d_dn_en, d_dn_ch, d_dn_up, d_dn_sn, d_dn_sa, d_dn_ar, d_dn_fw, d_dn_cr⟩, ⟨d_st_en, d_st_ch, d_st_up, d_st_sn, d_st_sa, d_st_ar, d_st_fw, d_st_cr⟩, ⟨d_en_ch, d_en_up, d_en_sn, d_en_sa, d_en_ar, d_en_fw, d_en_cr⟩, ⟨d_ch_up, d_ch_sn, d_ch_sa, d_ch_ar, d_ch_fw, d_ch_cr⟩, ⟨d_up_sn, d_up_sa, d_up_ar, d_up_fw, d_up_cr⟩, ⟨d_sn_sa, d_sn_ar, d_sn_fw, d_sn_cr⟩, ⟨d_sa_ar, d_sa_fw, d_sa_cr⟩, ⟨d_ar_fw, d_ar_cr⟩, d_fw_cr⟩
  have hle : ∀ k ∈ CkB.L ⟨W.heap.size, x_pk, x_pr, x_dn, x_st, x_en, x_ch, x_up, x_sn, x_sa, x_ar, x_fw, x_cr⟩, w.heap.size ≤ k := by
   intro k hk
   simp only [CkB.L, List.mem_cons, List.not_mem_nil, or_false] at hk
   rcases hk with rfl | rfl | rfl | rfl | rfl | rfl | rfl | rfl | rfl | rfl | rfl | rfl | rfl <;> omega
  have HB := hU (hXW.b)
  have hval : ckV ⟨t, det, ga, ho, out⟩ A1 A2 O c1 c2 co (.slice none 0 0) ⟨W.heap.size, x_pk, x_pr, x_dn, x_st, x_en, x_ch, x_up, x_sn, x_sa, x_ar, x_fw, x_cr⟩ { CkS.new t with st := fill3 N 0 } = #[.int .i64 t.n, .slice A1 t.ov.length c1, .slice A2 t.ls.length c2, .int .i64 det, .int .i64 ga, .int .i64 ho, .slice O out.length co, .map (some x_pk), .map (some x_pr), .slice none 0 0, .map (some x_dn), .slice (some ⟨x_st, 0, none⟩) N N, .slice (some ⟨x_en, 0, none⟩) N N, .slice (some ⟨x_ch, 0, none⟩) N N, .slice (some ⟨x_up, 0, none⟩) (2 * t.ls.length) (2 * t.ls.length), .map (some x_sn), .map (some x_sa), .map (some x_ar), .map (some x_fw), .map (some x_cr)] := by
   simp [ckV, CkS.new, fill3_len, hNt]
  go_upto_region 3 with fail
  refine kQ (fun Y => CkAt ⟨t, det, ga, ho, out⟩ A1 A2 O c1 c2 co (.slice none 0 0) ⟨W.heap.size, x_pk, x_pr, x_dn, x_st, x_en, x_ch, x_up, x_sn, x_sa, x_ar, x_fw, x_cr⟩ (fun _ => none) (fun _ => false) { CkS.new t with st := fill3 N 0 } Y ∧ Below w.heap.size w Y) ⟨⟨by rw [hval]; exact Bl.new W _ _, hnd, hM.kept (fun k _ _ hk => (cQ W _).block k hk) hnd⟩, HB.out.trans ((cQ W _).mono HB.out.size)⟩ ?_
  rintro Y ⟨hc, hb⟩
  have HC := hU hc
  have HBY := hU hb
  have HND := hU hnd
  have HLE := hU hle
  generalize W.heap.size = cb at *
  clear hc hb hnd hle hM hval HB hWs l_pk h_pk l_pr h_pr l_dn h_dn l_st h_st l_en h_en l_ch h_ch l_up h_up l_sn h_sn l_sa h_sa l_ar h_ar l_fw h_fw l_cr h_cr d_pk_pr d_pk_dn d_pk_st d_pk_en d_pk_ch d_pk_up d_pk_sn d_pk_sa d_pk_ar d_pk_fw d_pk_cr d_pr_dn d_pr_st d_pr_en d_pr_ch d_pr_up d_pr_sn d_pr_sa d_pr_ar d_pr_fw d_pr_cr d_dn_st d_dn_en d_dn_ch d_dn_up d_dn_sn d_dn_sa d_dn_ar d_dn_fw d_dn_cr d_st_en d_st_ch d_st_up d_st_sn d_st_sa d_st_ar d_st_fw d_st_cr d_en_ch d_en_up d_en_sn d_en_sa d_en_ar d_en_fw d_en_cr d_ch_up d_ch_sn d_ch_sa d_ch_ar d_ch_fw d_ch_cr d_up_sn d_up_sa d_up_ar d_up_fw d_up_cr d_sn_sa d_sn_ar d_sn_fw d_sn_cr d_sa_ar d_sa_fw d_sa_cr d_ar_fw d_ar_cr d_fw_cr
  have hNb : (N : Int) ≤ 64 := by have := HN.out; have := HNE.out; omega
  have q5 : Y.cell? ⟨cb, 11, none⟩ = some (.slice (some ⟨x_st, 0, none⟩) N N) := by
   have := HC.out.q11
   simpa [fill3_len] using this
  go_wp2_with fail
  go_loopw [36] (fun i wr => ∃ k : Nat, k ≤ N ∧ i = .int .i64 k ∧ Hid (CkAt ⟨t, det, ga, ho, out⟩ A1 A2 O c1 c2 co (.slice none 0 0) ⟨cb, x_pk, x_pr, x_dn, x_st, x_en, x_ch, x_up, x_sn, x_sa, x_ar, x_fw, x_cr⟩ (fun _ => none) (fun _ => false) { CkS.new t with st := fill3 N k } wr) ∧ Hid (Below w.heap.size w wr)) (fun i _ => N - (intOf i).toNat)
  case atStart => exact ⟨0, Nat.zero_le _, rfl, HC, HBY⟩
  case round =>
   clear HC HBY q5
   obtain ⟨k, hk, rfl, HC, HBY⟩ := hrel
   by_cases hlt : k < N
   ·have hlt' : (k : Int) < (N : Int) := by omega
    have q5 : wr.cell? ⟨cb, 11, none⟩ = some (.slice (some ⟨x_st, 0, none⟩) N N) := by
     have := HC.out.q11
     simpa [fill3_len] using this
    have q6 : wr.frozen? ⟨x_st, k, none⟩ = false := Bl.frz HC.out.m.st k
    have q7 : wr.cell? ⟨x_st, k, none⟩ = some (.int .i64 (getI (fill3 N k) k)) := by
     have := RowI.cell (i := (k : Int)) HC.out.m.st (by omega) (by simp only [fill3_len]; exact hlt')
     simpa using this
    have HXS := hU (HLE.out x_st (by simp [CkB.L]))
    go_wp2_with fail
    go_roundw
    case rel => exact ⟨k + 1, by omega, by go_num, hU (by
     have h1 := CkAt.on_st HC.out (W' := wr.setCell ⟨x_st, k, none⟩ (.int .i64 3)) (fun j hj _ => Below.heap_setCell _ _ _ _ hj) ((fill3 N k).set k 3) (by simp) (RowI.set HC.out.m.st k 3)
     rw [fill3_set] at h1
     exact h1), hU (Bset HBY.out HXS.out)⟩
    case measure => simp [intOf]; omega
   ·obtain rfl : k = N := by omega
    go_wp2_with fail
    go_ret
    refine ⟨⟨cb, x_pk, x_pr, x_dn, x_st, x_en, x_ch, x_up, x_sn, x_sa, x_ar, x_fw, x_cr⟩, rfl, ?_, HLE.out, HBY.out⟩
    have h1 := HC.out
    rw [fill3_done] at h1
    rwa [show ({ CkS.new t with st := List.replicate k 3 } : CkS) = CkS.new t from by simp only [CkS.new, hNt]] at h1
end
end
end Go.Proofs.YtdnjflpmbnjgeaaGreat
