/-
  A map that the code itself has made, as a function: looked up, stored into, deleted from.
  The keys of the maps of package verify (printed by gen_vym.py).
-/
import Derived.Test.YtdnjflpmbnjgeaaGreatPkKp
import Derived.DeepKeys4
set_option linter.unusedSimpArgs false
set_option linter.unusedVariables false
namespace Go.Proofs.YtdnjflpmbnjgeaaGreat
section
open Go.RowKit Go.Sort Go.ChangeMaps Go.MapKept
open Go.Maps (Keyed)
section
variable {P : Program} {k e t : TypeId} {b : Nat} {L : List (Value × Value)} {w : World}
theorem mem_set_key {L : List (Value × Value)} (hn : (L.map (·.1)).Nodup) {j : Nat} {x0 y : Value × Value} (h0 : L[j]? = some x0) (x : Value × Value) : x ∈ L.set j y ↔ x = y ∨ (x ∈ L ∧ x.1 ≠ x0.1) := by
 obtain ⟨hj, rfl⟩ := List.getElem?_eq_some_iff.1 h0
 constructor
 ·intro hx
  obtain ⟨i, hi, rfl⟩ := List.getElem_of_mem hx
  rw [List.getElem_set]
  split
  ·exact .inl rfl
  ·rename_i hne
   refine .inr ⟨List.getElem_mem _, fun he => hne ?_⟩
   have := List.getElem_inj hn (i := i) (j := j) (h₀ := by simpa using hi) (h₁ := by simpa using hj)
   simp only [List.getElem_map] at this
   exact (this.1 he).symm
 ·rintro (rfl | ⟨hx, hne⟩)
  ·exact List.mem_iff_getElem.2 ⟨j, by simpa using hj, by simp⟩
  ·obtain ⟨i, hi, rfl⟩ := List.getElem_of_mem hx
   have : j ≠ i := fun e => hne (by subst e; rfl)
   exact List.mem_iff_getElem.2 ⟨i, by simpa using hi, by rw [List.getElem_set, if_neg this]⟩
theorem mem_erase_key {L : List (Value × Value)} (hn : (L.map (·.1)).Nodup) {j : Nat} {x0 : Value × Value} (h0 : L[j]? = some x0) (x : Value × Value) : x ∈ L.eraseIdx j ↔ (x ∈ L ∧ x.1 ≠ x0.1) := by
 obtain ⟨hj, rfl⟩ := List.getElem?_eq_some_iff.1 h0
 rw [List.mem_eraseIdx_iff_getElem]
 constructor
 ·rintro ⟨i, hi, hne, rfl⟩
  refine ⟨List.getElem_mem _, fun he => hne ?_⟩
  have := List.getElem_inj hn (i := i) (j := j) (h₀ := by simpa using hi) (h₁ := by simpa using hj)
  simp only [List.getElem_map] at this
  exact this.1 he
 ·rintro ⟨hx, hne⟩
  obtain ⟨i, hi, rfl⟩ := List.getElem_of_mem hx
  exact ⟨i, hi, fun e => hne (by subst e; rfl), rfl⟩
theorem eraseIdx_of_map {α β : Type} (f : α → β) : ∀ (l : List α) (j : Nat), (l.eraseIdx j).map f = (l.map f).eraseIdx j
 | [], j => by simp
 | x :: l, 0 => by simp
 | x :: l, j + 1 => by simp [eraseIdx_of_map f l j]
/-- An entry is stored, whether or not there was one with its key. -/
theorem MapAt.write (h : MapAt P k b L w) (K : Keyed P k) (ht : P.underlying t = some (.map k e)) {key : Value} {kl : Lit} (hkey : keyOf P k key = some kl) (v : Value) :
    ∃ w' L', (Instr.mapUpdate t (.map (some b)) key v).run P w = .ok () w' ∧ MapAt P k b L' w' ∧ (∀ x, x ∈ L' ↔ x = (key, v) ∨ (x ∈ L ∧ x.1 ≠ key)) ∧ w.grownBy w' (some b) := by
 obtain ⟨es, clock, hb, rfl, hk, hn, hst⟩ := h
 rcases K.find w hkey es.toList (fun e he => hk (e.key, e.val) (List.mem_map.2 ⟨e, he, rfl⟩)) with ⟨h1, h2⟩ | ⟨j, e0, h1, h2, h3⟩
 ·have hm : ∀ x ∈ es.toList.map (fun e => (e.key, e.val)), x.1 ≠ key := by
   intro x hx
   obtain ⟨y, hy, rfl⟩ := List.mem_map.1 hx
   exact h2 y hy
  obtain ⟨w', h1, h2, h3⟩ := MapAt.store (P := P) (k := k) (e := e) (t := t) (b := b) ⟨es, clock, hb, rfl, hk, hn, hst⟩ K ht hkey v hm
  refine ⟨w', _, h1, h2, fun x => ?_, h3⟩
  rw [List.mem_append, List.mem_singleton]
  exact ⟨fun hx => hx.elim (fun hx => .inr ⟨hx, hm x hx⟩) .inl, fun hx => hx.elim .inr (fun hx => .inl hx.1)⟩
 ·have hj : es[j]? = some e0 := by simpa using h2
  have hkeyf : ∀ e', es[j]? = some e' → ({ e' with key := key, val := v } : MapEntry).key = e'.key := fun e' he' => by rw [hj] at he'; cases he'; exact h3.symm
  have hm : (es.modify j (fun e' => { e' with key := key, val := v })).toList.map (fun e => (e.key, e.val)) = (es.toList.map (fun e => (e.key, e.val))).set j (key, v) := by
   refine List.ext_getElem? fun i => ?_
   rw [Array.toList_modify, List.getElem?_map, List.getElem?_modify, List.getElem?_set, List.getElem?_map]
   by_cases e : j = i
   ·subst e
    have hj2 := (List.getElem?_eq_some_iff.1 h2).1
    have hj3 : j < es.size := by simpa using hj2
    simp [hj3]
   ·simp [e]
  have hL : (es.toList.map (fun e => (e.key, e.val)))[j]? = some (e0.key, e0.val) := by rw [List.getElem?_map, h2]; rfl
  have hmem := fun x => mem_set_key hn (y := (key, v)) hL x
  refine ⟨setBlock w b (.map (es.modify j (fun e' => { e' with key := key, val := v })) clock), _, ?_, ⟨_, _, heap_setBlock_same hb _, hm, ?_, ?_, stamped_modify hst _ _ (fun _ _ => rfl) (fun e' _ he' => hkeyf e' he')⟩, fun x => ?_, ⟨rfl, rfl, rfl, by simp [setBlock], fun i _ hi => heap_setBlock_other hb _ (fun e => hi (by rw [e]))⟩⟩
  ·simp [Instr.mapUpdate, run_underlying ht, MapKept.run_getObj_map hb, K.check w false hkey, h1, hj, h3, K.stays w hkey, MapKept.run_setObj_map _ hb, Result.andThen, setBlock]
  ·intro x hx
   rcases (hmem x).1 hx with rfl | ⟨hx, _⟩
   ·exact ⟨_, hkey⟩
   ·exact hk x hx
  ·rw [List.map_set]
   have : (es.toList.map (fun e => (e.key, e.val))).map (·.1) = ((es.toList.map (fun e => (e.key, e.val))).map (·.1)).set j key := by
    refine List.ext_getElem? fun i => ?_
    rw [List.getElem?_set]
    by_cases e : j = i
    ·subst e
     have hj2 := (List.getElem?_eq_some_iff.1 h2).1
     have hj3 : j < es.size := by simpa using hj2
     rw [List.getElem?_map, hL]
     simp [hj3, h3]
    ·simp [e]
   rw [← this]
   exact hn
  ·rw [hmem x, h3]
/-- An entry is taken out, if there is one. -/
theorem MapAt.drop {ty : TypeId} (h : MapAt P k b L w) (K : Keyed P k) (ht : P.underlying t = some (.map k e)) {key : Value} {kl : Lit} (hkey : keyOf P k key = some kl) :
    ∃ w' L', (Builtin.delete_ #[t, k] ty #[.map (some b), key]).run P w = .ok (.tuple #[]) w' ∧ MapAt P k b L' w' ∧ (∀ x, x ∈ L' ↔ (x ∈ L ∧ x.1 ≠ key)) ∧ w.grownBy w' (some b) := by
 obtain ⟨es, clock, hb, rfl, hk, hn, hst⟩ := h
 have hg : ∀ es', w.grownBy (setBlock w b (.map es' clock)) (some b) := fun es' => ⟨rfl, rfl, rfl, by simp [setBlock], fun i _ hi => heap_setBlock_other hb _ (fun e => hi (by rw [e]))⟩
 rcases K.find w hkey es.toList (fun e he => hk (e.key, e.val) (List.mem_map.2 ⟨e, he, rfl⟩)) with ⟨h1, h2⟩ | ⟨j, e0, h1, h2, h3⟩
 ·refine ⟨setBlock w b (.map es clock), _, ?_, ⟨_, _, heap_setBlock_same hb _, rfl, hk, hn, hst⟩, fun x => ?_, hg _⟩
  ·simp [Builtin.delete_, run_underlying ht, MapKept.run_getObj_map hb, K.check w _ hkey, h1, MapKept.run_setObj_map _ hb, Result.andThen, setBlock]
  ·refine ⟨fun hx => ⟨hx, ?_⟩, fun hx => hx.1⟩
   obtain ⟨y, hy, rfl⟩ := List.mem_map.1 hx
   exact h2 y hy
 ·have hjl : j < es.toList.length := (List.getElem?_eq_some_iff.1 h2).1
  have hjs : j < es.size := by simpa using hjl
  have hsub : (es.eraseIdxIfInBounds j).toList = es.toList.eraseIdx j := by
   unfold Array.eraseIdxIfInBounds
   rw [dif_pos hjs]
   simp
  have hL : (es.toList.map (fun e => (e.key, e.val)))[j]? = some (e0.key, e0.val) := by rw [List.getElem?_map, h2]; rfl
  have hm : (es.toList.eraseIdx j).map (fun e => (e.key, e.val)) = (es.toList.map (fun e => (e.key, e.val))).eraseIdx j := eraseIdx_of_map _ _ _
  have hmem := fun x => mem_erase_key hn hL x
  refine ⟨setBlock w b (.map (es.eraseIdxIfInBounds j) clock), _, ?_, ⟨_, _, heap_setBlock_same hb _, by rw [hsub, hm], ?_, ?_, stamped_erase hst j⟩, fun x => ?_, hg _⟩
  ·simp [Builtin.delete_, run_underlying ht, MapKept.run_getObj_map hb, K.check w _ hkey, h1, MapKept.run_setObj_map _ hb, Result.andThen, setBlock]
  ·intro x hx
   exact hk x ((hmem x).1 hx).1
  ·exact List.Nodup.sublist (List.Sublist.map _ (List.eraseIdx_sublist _ _)) hn
  ·rw [hmem x, h3]
end
/-- A map as a function: enc writes its keys, ev its values. -/
def FM {α β : Type} (P : Program) (k : TypeId) (enc : α → Value) (ev : β → Value) (b : Nat) (f : α → Option β) (w : World) : Prop :=
 ∃ L, MapAt P k b L w ∧ (∀ x ∈ L, ∃ a y, x = (enc a, ev y)) ∧ ∀ a y, f a = some y ↔ (enc a, ev y) ∈ L
section
variable {α β : Type} {P : Program} {k e t : TypeId} {enc : α → Value} {ev : β → Value} {b : Nat} {f : α → Option β} {w w' : World}
theorem FM.lt (h : FM P k enc ev b f w) : b < w.heap.size := by obtain ⟨L, h1, _⟩ := h; exact h1.lt
theorem FM.kept (h : FM P k enc ev b f w) (hb : w'.heap[b]? = w.heap[b]?) : FM P k enc ev b f w' := by obtain ⟨L, h1, h2⟩ := h; exact ⟨L, h1.kept hb, h2⟩
theorem FM.up (h : FM P k enc ev b f w) (hb : Below w.heap.size w w') : FM P k enc ev b f w' := h.kept (hb.block b h.lt)
theorem FM.kp {X : List Nat} (h : FM P k enc ev b f w) (hb : Kp X w w') (hX : b ∉ X) : FM P k enc ev b f w' := h.kept (hb.blk b h.lt hX)
theorem FM.made (P : Program) (k : TypeId) (enc : α → Value) (ev : β → Value) (w : World) : FM P k enc ev w.heap.size (fun _ => none) (w.alloc (.map #[] 0)) :=
 ⟨[], MapAt.made P k w, by simp, by simp⟩
theorem FM.look (h : FM P k enc ev b f w) (K : Keyed P k) (ht : P.underlying t = some (.map k e)) {z : Value} (hz : (zeroValue e).run P w = .ok z w) (a : α) (hkey : ∃ kl, keyOf P k (enc a) = some kl) (hi : ∀ x, enc x = enc a → x = a) (c : Bool) :
    (Instr.lookup t (.map (some b)) (enc a) c).run P w = .ok (if c then .tuple #[((f a).map ev).getD z, .bool (f a).isSome] else ((f a).map ev).getD z) w := by
 obtain ⟨kl, hkey⟩ := hkey
 obtain ⟨L, h1, h2, h3⟩ := h
 cases hf : f a with
 | none =>
  refine h1.miss K ht hz hkey c fun x hx e => ?_
  obtain ⟨a', y, rfl⟩ := h2 x hx
  have := (h3 a' y).2 hx
  rw [hi a' e, hf] at this
  cases this
 | some y => exact h1.hit K ht hkey c ((h3 a y).1 hf)
theorem FM.put [DecidableEq α] (h : FM P k enc ev b f w) (K : Keyed P k) (ht : P.underlying t = some (.map k e)) (a : α) (y : β) (hkey : ∃ kl, keyOf P k (enc a) = some kl) (hi : ∀ x, enc x = enc a → x = a) (hv : ∀ u, ev u = ev y → u = y) :
    ∃ w', (Instr.mapUpdate t (.map (some b)) (enc a) (ev y)).run P w = .ok () w' ∧ FM P k enc ev b (fun x => if x = a then some y else f x) w' ∧ w.grownBy w' (some b) := by
 obtain ⟨kl, hkey⟩ := hkey
 obtain ⟨L, h1, h2, h3⟩ := h
 obtain ⟨w', L', g1, g2, g3, g4⟩ := h1.write K ht hkey (ev y)
 refine ⟨w', g1, ⟨L', g2, fun x hx => ?_, fun a' y' => ?_⟩, g4⟩
 ·rcases (g3 x).1 hx with rfl | ⟨hx, _⟩
  ·exact ⟨a, y, rfl⟩
  ·exact h2 x hx
 ·rw [g3]
  show (if a' = a then some y else f a') = some y' ↔ _
  by_cases he : a' = a
  ·subst he
   rw [if_pos rfl]
   constructor
   ·intro h; injection h with h; subst h; exact .inl rfl
   ·rintro (h | ⟨_, h⟩)
    ·injection h with _ h; rw [hv _ h]
    ·exact absurd rfl h
  ·rw [if_neg he, h3]
   constructor
   ·exact fun h => .inr ⟨h, fun e => he (hi _ e)⟩
   ·rintro (h | ⟨h, _⟩)
    ·injection h with h _; exact absurd (hi _ h) he
    ·exact h
theorem FM.del [DecidableEq α] {ty : TypeId} (h : FM P k enc ev b f w) (K : Keyed P k) (ht : P.underlying t = some (.map k e)) (a : α) (hkey : ∃ kl, keyOf P k (enc a) = some kl) (hi : ∀ x, enc x = enc a → x = a) :
    ∃ w', (Builtin.delete_ #[t, k] ty #[.map (some b), enc a]).run P w = .ok (.tuple #[]) w' ∧ FM P k enc ev b (fun x => if x = a then none else f x) w' ∧ w.grownBy w' (some b) := by
 obtain ⟨kl, hkey⟩ := hkey
 obtain ⟨L, h1, h2, h3⟩ := h
 obtain ⟨w', L', g1, g2, g3, g4⟩ := h1.drop (ty := ty) K ht hkey
 refine ⟨w', g1, ⟨L', g2, fun x hx => h2 x ((g3 x).1 hx).1, fun a' y' => ?_⟩, g4⟩
 rw [g3]
 show (if a' = a then none else f a') = some y' ↔ _
 by_cases he : a' = a
 ·subst he
  rw [if_pos rfl]
  constructor
  ·intro h; cases h
  ·intro h; exact absurd rfl h.2
 ·rw [if_neg he, h3]
  exact ⟨fun h => ⟨h, fun e => he (hi _ e)⟩, fun h => h.1⟩
end
end
section
open Go.RowKit Go.Sort
open Go.Maps (Keyed)
def inJ (n : Int) : Prop := -9223372036854775808 ≤ n ∧ n ≤ 9223372036854775807
theorem laid_outV : laidOutB Tryz.prog = true := by kernel_rfl
theorem lits_intV {P : Program} {d : Nat} {t : TypeId} {q : IntKind} {a : Int} (ht : P.underlying t = some (.int q)) (hw : (Lit.int q a).wf = true) : P.keyLits (d + 1) t [.int q a] = some [.int q a] := by
 simp [Program.keyLits, ht, hw]
theorem wf_J {a : Int} (h : inJ a) : (Lit.int .i64 a).wf = true := by
 have e1 : IntKind.i64.min = -9223372036854775808 := by decide
 have e2 : IntKind.i64.max = 9223372036854775807 := by decide
 unfold inJ at h
 simp [Lit.wf, e1, e2]
 omega
theorem keyJ {v : Int} (h : inJ v) : ∃ l, keyOf Tryz.prog 3 (.int .i64 v) = some l :=
 ⟨_, Go.Maps.keyOf_int_mk Tryz.underlying3 (wf_J h)⟩
def enc1 (v : Int) : Value := .int .i64 v
def enc2 (p : Int × Int) : Value := .agg #[.int .i64 p.1, .int .i64 p.2]
def enc3 (p : Int × Int × Int) : Value := .agg #[.int .i64 p.1, .int .i64 p.2.1, .int .i64 p.2.2]
theorem enc1_inj (v : Int) : ∀ x, enc1 x = enc1 v → x = v := fun x h => by simpa [enc1] using h
theorem enc2_inj (v : Int × Int) : ∀ x, enc2 x = enc2 v → x = v := fun x h => by
 have : x.1 = v.1 ∧ x.2 = v.2 := by simpa [enc2] using h
 exact Prod.ext this.1 this.2
theorem enc3_inj (v : Int × Int × Int) : ∀ x, enc3 x = enc3 v → x = v := fun x h => by
 have : x.1 = v.1 ∧ x.2.1 = v.2.1 ∧ x.2.2 = v.2.2 := by simpa [enc3] using h
 exact Prod.ext this.1 (Prod.ext this.2.1 this.2.2)
theorem evB_inj (v : Bool) : ∀ x, Value.bool x = Value.bool v → x = v := fun x h => by simpa using h
theorem evI_inj (v : Int) : ∀ x, Value.int .i64 x = Value.int .i64 v → x = v := fun x h => by simpa using h
theorem zero_boolV (w : World) : (zeroValue 4).run Tryz.prog w = .ok (.bool false) w := by kernel_rfl
theorem zero_intV (w : World) : (zeroValue 3).run Tryz.prog w = .ok (.int .i64 0) w := by kernel_rfl
theorem key_spot : Keyed Tryz.prog 101 := Keyed.of_law (deep_law_laid laid_outV (m := 2) (by omega) (of_decide_eq_true (by kernel_rfl)) (by kernel_rfl) (by kernel_rfl))
theorem keyOf_spot (p : Int × Int) (h0 : inJ p.1) (h1 : inJ p.2) : ∃ l, keyOf Tryz.prog 101 (enc2 p) = some l := by
 have w0 := wf_J h0
 have w1 := wf_J h1
 have hu := Tryz.underlying101
 have hc : Tryz.prog.cellsOf 101 = 2 := by kernel_rfl
 have hi : Tryz.prog.cellsOf 3 = 1 := by kernel_rfl
 have hk : Tryz.prog.keyType 101 = true := by kernel_rfl
 obtain ⟨n, hn⟩ : ∃ n, Tryz.prog.types.size = n + 1 := ⟨Tryz.prog.types.size - 1, by have : 0 < Tryz.prog.types.size := of_decide_eq_true (by kernel_rfl); omega⟩
 refine ⟨.string (keyBytes [.int .i64 p.1, .int .i64 p.2]), ?_⟩
 have hf : (Value.agg #[.int .i64 p.1, .int .i64 p.2]).formed Tryz.prog 101 = true := by simp [Value.formed, hu, hc]
 have hl : Tryz.prog.keyLits (Tryz.prog.types.size + 1) 101 [.int .i64 p.1, .int .i64 p.2] = some [.int .i64 p.1, .int .i64 p.2] := by
  rw [hn, Program.keyLits.eq_def]
  simp only [hu, hc, List.length_cons, List.length_nil, Nat.zero_add]
  have e0 := lits_intV (d := n) (a := p.1) Tryz.underlying3 w0
  have e1 := lits_intV (d := n) (a := p.2) Tryz.underlying3 w1
  simp [e0, e1, hi]
 unfold keyOf enc2
 rw [hu]
 simp only [hk, hf, Bool.and_self, if_true]
 show (Tryz.prog.keyLits (Tryz.prog.types.size + 1) 101 [.int .i64 p.1, .int .i64 p.2]).map _ = _
 rw [hl]
 rfl
theorem key_cross : Keyed Tryz.prog 106 := Keyed.of_law (deep_law_laid laid_outV (m := 2) (by omega) (of_decide_eq_true (by kernel_rfl)) (by kernel_rfl) (by kernel_rfl))
theorem keyOf_cross (p : Int × Int) (h0 : inJ p.1) (h1 : inJ p.2) : ∃ l, keyOf Tryz.prog 106 (enc2 p) = some l := by
 have w0 := wf_J h0
 have w1 := wf_J h1
 have hu := Tryz.underlying106
 have hc : Tryz.prog.cellsOf 106 = 2 := by kernel_rfl
 have hi : Tryz.prog.cellsOf 3 = 1 := by kernel_rfl
 have hk : Tryz.prog.keyType 106 = true := by kernel_rfl
 obtain ⟨n, hn⟩ : ∃ n, Tryz.prog.types.size = n + 1 := ⟨Tryz.prog.types.size - 1, by have : 0 < Tryz.prog.types.size := of_decide_eq_true (by kernel_rfl); omega⟩
 refine ⟨.string (keyBytes [.int .i64 p.1, .int .i64 p.2]), ?_⟩
 have hf : (Value.agg #[.int .i64 p.1, .int .i64 p.2]).formed Tryz.prog 106 = true := by simp [Value.formed, hu, hc]
 have hl : Tryz.prog.keyLits (Tryz.prog.types.size + 1) 106 [.int .i64 p.1, .int .i64 p.2] = some [.int .i64 p.1, .int .i64 p.2] := by
  rw [hn, Program.keyLits.eq_def]
  simp only [hu, hc, List.length_cons, List.length_nil, Nat.zero_add]
  have e0 := lits_intV (d := n) (a := p.1) Tryz.underlying3 w0
  have e1 := lits_intV (d := n) (a := p.2) Tryz.underlying3 w1
  simp [e0, e1, hi]
 unfold keyOf enc2
 rw [hu]
 simp only [hk, hf, Bool.and_self, if_true]
 show (Tryz.prog.keyLits (Tryz.prog.types.size + 1) 106 [.int .i64 p.1, .int .i64 p.2]).map _ = _
 rw [hl]
 rfl
theorem key_visit : Keyed Tryz.prog 99 := Keyed.of_law (deep_law_laid laid_outV (m := 2) (by omega) (of_decide_eq_true (by kernel_rfl)) (by kernel_rfl) (by kernel_rfl))
theorem keyOf_visit (p : Int × Int × Int) (h0 : inJ p.1) (h1 : inJ p.2.1) (h2 : inJ p.2.2) : ∃ l, keyOf Tryz.prog 99 (enc3 p) = some l := by
 have w0 := wf_J h0
 have w1 := wf_J h1
 have w2 := wf_J h2
 have hu := Tryz.underlying99
 have hc : Tryz.prog.cellsOf 99 = 3 := by kernel_rfl
 have hi : Tryz.prog.cellsOf 3 = 1 := by kernel_rfl
 have hk : Tryz.prog.keyType 99 = true := by kernel_rfl
 obtain ⟨n, hn⟩ : ∃ n, Tryz.prog.types.size = n + 1 := ⟨Tryz.prog.types.size - 1, by have : 0 < Tryz.prog.types.size := of_decide_eq_true (by kernel_rfl); omega⟩
 refine ⟨.string (keyBytes [.int .i64 p.1, .int .i64 p.2.1, .int .i64 p.2.2]), ?_⟩
 have hf : (Value.agg #[.int .i64 p.1, .int .i64 p.2.1, .int .i64 p.2.2]).formed Tryz.prog 99 = true := by simp [Value.formed, hu, hc]
 have hl : Tryz.prog.keyLits (Tryz.prog.types.size + 1) 99 [.int .i64 p.1, .int .i64 p.2.1, .int .i64 p.2.2] = some [.int .i64 p.1, .int .i64 p.2.1, .int .i64 p.2.2] := by
  rw [hn, Program.keyLits.eq_def]
  simp only [hu, hc, List.length_cons, List.length_nil, Nat.zero_add]
  have e0 := lits_intV (d := n) (a := p.1) Tryz.underlying3 w0
  have e1 := lits_intV (d := n) (a := p.2.1) Tryz.underlying3 w1
  have e2 := lits_intV (d := n) (a := p.2.2) Tryz.underlying3 w2
  simp [e0, e1, e2, hi]
 unfold keyOf enc3
 rw [hu]
 simp only [hk, hf, Bool.and_self, if_true]
 show (Tryz.prog.keyLits (Tryz.prog.types.size + 1) 99 [.int .i64 p.1, .int .i64 p.2.1, .int .i64 p.2.2]).map _ = _
 rw [hl]
 rfl
theorem key_hop : Keyed Tryz.prog 104 := Keyed.of_law (deep_law_laid laid_outV (m := 2) (by omega) (of_decide_eq_true (by kernel_rfl)) (by kernel_rfl) (by kernel_rfl))
theorem keyOf_hop (p : Int × Int × Int) (h0 : inJ p.1) (h1 : inJ p.2.1) (h2 : inJ p.2.2) : ∃ l, keyOf Tryz.prog 104 (enc3 p) = some l := by
 have w0 := wf_J h0
 have w1 := wf_J h1
 have w2 := wf_J h2
 have hu := Tryz.underlying104
 have hc : Tryz.prog.cellsOf 104 = 3 := by kernel_rfl
 have hi : Tryz.prog.cellsOf 3 = 1 := by kernel_rfl
 have hk : Tryz.prog.keyType 104 = true := by kernel_rfl
 obtain ⟨n, hn⟩ : ∃ n, Tryz.prog.types.size = n + 1 := ⟨Tryz.prog.types.size - 1, by have : 0 < Tryz.prog.types.size := of_decide_eq_true (by kernel_rfl); omega⟩
 refine ⟨.string (keyBytes [.int .i64 p.1, .int .i64 p.2.1, .int .i64 p.2.2]), ?_⟩
 have hf : (Value.agg #[.int .i64 p.1, .int .i64 p.2.1, .int .i64 p.2.2]).formed Tryz.prog 104 = true := by simp [Value.formed, hu, hc]
 have hl : Tryz.prog.keyLits (Tryz.prog.types.size + 1) 104 [.int .i64 p.1, .int .i64 p.2.1, .int .i64 p.2.2] = some [.int .i64 p.1, .int .i64 p.2.1, .int .i64 p.2.2] := by
  rw [hn, Program.keyLits.eq_def]
  simp only [hu, hc, List.length_cons, List.length_nil, Nat.zero_add]
  have e0 := lits_intV (d := n) (a := p.1) Tryz.underlying3 w0
  have e1 := lits_intV (d := n) (a := p.2.1) Tryz.underlying3 w1
  have e2 := lits_intV (d := n) (a := p.2.2) Tryz.underlying3 w2
  simp [e0, e1, e2, hi]
 unfold keyOf enc3
 rw [hu]
 simp only [hk, hf, Bool.and_self, if_true]
 show (Tryz.prog.keyLits (Tryz.prog.types.size + 1) 104 [.int .i64 p.1, .int .i64 p.2.1, .int .i64 p.2.2]).map _ = _
 rw [hl]
 rfl
theorem key_comp : Keyed Tryz.prog 79 := Keyed.of_law (deep_law_laid laid_outV (m := 2) (by omega) (of_decide_eq_true (by kernel_rfl)) (by kernel_rfl) (by kernel_rfl))
theorem keyOf_comp (p : Int × Int) (h0 : inJ p.1) (h1 : inJ p.2) : ∃ l, keyOf Tryz.prog 79 (enc2 p) = some l := by
 have w0 := wf_J h0
 have w1 := wf_J h1
 have hu := Tryz.underlying79
 have hc : Tryz.prog.cellsOf 79 = 2 := by kernel_rfl
 have hi : Tryz.prog.cellsOf 3 = 1 := by kernel_rfl
 have hk : Tryz.prog.keyType 79 = true := by kernel_rfl
 obtain ⟨n, hn⟩ : ∃ n, Tryz.prog.types.size = n + 1 := ⟨Tryz.prog.types.size - 1, by have : 0 < Tryz.prog.types.size := of_decide_eq_true (by kernel_rfl); omega⟩
 refine ⟨.string (keyBytes [.int .i64 p.1, .int .i64 p.2]), ?_⟩
 have hf : (Value.agg #[.int .i64 p.1, .int .i64 p.2]).formed Tryz.prog 79 = true := by simp [Value.formed, hu, hc]
 have hl : Tryz.prog.keyLits (Tryz.prog.types.size + 1) 79 [.int .i64 p.1, .int .i64 p.2] = some [.int .i64 p.1, .int .i64 p.2] := by
  rw [hn, Program.keyLits.eq_def]
  simp only [hu, hc, List.length_cons, List.length_nil, Nat.zero_add]
  have e0 := lits_intV (d := n) (a := p.1) Tryz.underlying3 w0
  have e1 := lits_intV (d := n) (a := p.2) Tryz.underlying3 w1
  simp [e0, e1, hi]
 unfold keyOf enc2
 rw [hu]
 simp only [hk, hf, Bool.and_self, if_true]
 show (Tryz.prog.keyLits (Tryz.prog.types.size + 1) 79 [.int .i64 p.1, .int .i64 p.2]).map _ = _
 rw [hl]
 rfl
end
end Go.Proofs.YtdnjflpmbnjgeaaGreat
