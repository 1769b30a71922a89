/-
  m[k]++ on a map that the code itself has made: the entry is made, then written.
  A checker takes an event into account (printed by gen_vye.py).
  see: kind 6 (printed by gen_vye2.py).
-/
import Derived.Test.YtdnjflpmbnjgeaaGreatPkFm
import Derived.WideKeyEntry
import Derived.Test.YtdnjflpmbnjgeaaGreatVyN
import Derived.Test.YtdnjflpmbnjgeaaGreatPkKp
import Derived.StillTailTactics
import Derived.Test.YtdnjflpmbnjgeaaGreatPkRtJ
set_option linter.unusedSimpArgs false
set_option linter.unusedVariables false
namespace Go.Proofs.YtdnjflpmbnjgeaaGreat
section
open Go.RowKit Go.Sort Go.ChangeMaps Go.MapKept
open Go.Maps (Keyed)
open Go.WideElems (findIdx_born findIdx_arr modify_last set_self)
section
variable {P : Program} {k e t : TypeId} {b : Nat} {L : List (Value × Value)} {w : World}
theorem modify_at {l : List MapEntry} {j : Nat} {e0 : MapEntry} (f : MapEntry → MapEntry) (h : l[j]? = some e0) : l.modify j f = l.set j (f e0) := by
 refine List.ext_getElem? fun i => ?_
 rw [List.getElem?_modify, List.getElem?_set]
 by_cases e : j = i
 ·subst e
  obtain ⟨h1, h2⟩ := List.getElem?_eq_some_iff.1 h
  simp [h1, h2]
 ·simp [e]
theorem MapAt.entry (h : MapAt P k b L w) (K : Keyed P k) (ht : P.underlying t = some (.map k e)) {z : Value} (hz : ∀ u : World, (zeroValue e).run P u = .ok z u) {key : Value} {kl : Lit} (hkey : keyOf P k key = some kl) :
    ∃ (v0 : Value) (st : Nat) (es1 : Array MapEntry) (cl1 : Nat), (Instr.mapEntry t (.map (some b)) key).run P w = .ok (.tuple #[v0, goInt st]) (setBlock w b (.map es1 cl1)) ∧ w.grownBy (setBlock w b (.map es1 cl1)) (some b) ∧ (setBlock w b (.map es1 cl1)).heap[b]? = some (.map es1 cl1) ∧ (∃ L1, MapAt P k b L1 (setBlock w b (.map es1 cl1)) ∧ (L1 = L ∨ ((∀ x ∈ L, x.1 ≠ key) ∧ ∀ x, x ∈ L1 ↔ x = (key, z) ∨ x ∈ L))) ∧
     ∀ (w2 : World) (val : Value), w2.heap[b]? = some (.map es1 cl1) → ∃ w3 L', (Instr.entryStore t (.map (some b)) (goInt st) val).run P w2 = .ok () w3 ∧ MapAt P k b L' w3 ∧ (∀ x, x ∈ L' ↔ x = (key, val) ∨ (x ∈ L ∧ x.1 ≠ key)) ∧ w2.grownBy w3 (some b) := by
 have hw := fun v => h.write K ht hkey v
 have h00 := h
 obtain ⟨es, clock, hb, rfl, hk, hn, s1, s2, s3⟩ := h
 have hg : ∀ (w : World) (e0 : Array MapEntry) (q0 : Nat) (o1 : Obj), w.heap[b]? = some (.map e0 q0) → w.grownBy (setBlock w b o1) (some b) := fun w e0 q0 o1 hb => ⟨rfl, rfl, rfl, by simp [setBlock], fun i _ hi => heap_setBlock_other hb _ (fun e => hi (by rw [e]))⟩
 have fin : ∀ (w2 : World) (e0 : Array MapEntry) (q0 : Nat) (val : Value) (es' : Array MapEntry) (clock' : Nat), w2.heap[b]? = some (.map e0 q0) → (Instr.mapUpdate t (.map (some b)) key val).run P w = .ok () (setBlock w b (.map es' clock')) →
     ∃ L', MapAt P k b L' (setBlock w2 b (.map es' clock')) ∧ (∀ x, x ∈ L' ↔ x = (key, val) ∨ (x ∈ es.toList.map (fun e => (e.key, e.val)) ∧ x.1 ≠ key)) ∧ w2.grownBy (setBlock w2 b (.map es' clock')) (some b) := by
  intro w2 e0 q0 val es' clock' hw2 hu
  obtain ⟨w', L', h1, h2, h3, h4⟩ := hw val
  rw [hu] at h1
  injection h1 with _ h1
  subst h1
  refine ⟨L', ?_, h3, hg _ _ _ _ hw2⟩
  obtain ⟨es2, cl2, g1, g2⟩ := h2
  rw [heap_setBlock_same hb] at g1
  exact ⟨es2, cl2, (heap_setBlock_same hw2 _).trans g1, g2⟩
 rcases K.find w hkey es.toList (fun e he => hk (e.key, e.val) (List.mem_map.2 ⟨e, he, rfl⟩)) with ⟨h1, h2⟩ | ⟨j, e0, h1, h2, h3⟩
 ·refine ⟨z, clock, es.push ⟨key, z, clock⟩, clock + 1, ?_, hg _ _ _ _ hb, heap_setBlock_same hb _, ?_, fun w2 val hw2 => ?_⟩
  ·simp [Instr.mapEntry, run_underlying ht, MapKept.run_getObj_map hb, K.check w false hkey, h1, hz, MapKept.run_setObj_map _ hb, Result.andThen, setBlock]
  ·obtain ⟨w', L', q1, q2, q3, q4⟩ := hw z
   have hu : (Instr.mapUpdate t (.map (some b)) key z).run P w = .ok () (setBlock w b (.map (es.push ⟨key, z, clock⟩) (clock + 1))) := by
    simp [Instr.mapUpdate, run_underlying ht, MapKept.run_getObj_map hb, K.check w false hkey, h1, MapKept.run_setObj_map _ hb, Result.andThen, setBlock]
   rw [hu] at q1
   injection q1 with _ q1
   subst q1
   have hno : ∀ x ∈ es.toList.map (fun e => (e.key, e.val)), x.1 ≠ key := fun x hx => by
    obtain ⟨y, hy, rfl⟩ := List.mem_map.1 hx
    exact h2 y hy
   exact ⟨L', q2, .inr ⟨hno, fun x => (q3 x).trans ⟨fun h => h.imp id (fun h => h.1), fun h => h.imp id (fun h => ⟨h, hno x h⟩)⟩⟩⟩
  ·obtain ⟨L', f1, f2, f3⟩ := fin w2 _ _ val (es.push ⟨key, val, clock⟩) (clock + 1) hw2 (by
    simp [Instr.mapUpdate, run_underlying ht, MapKept.run_getObj_map hb, K.check w false hkey, h1, MapKept.run_setObj_map _ hb, Result.andThen, setBlock])
   refine ⟨_, L', ?_, f1, f2, f3⟩
   have hidx : (es.push ⟨key, z, clock⟩).findIdx? (fun e => ((e.born : Nat) : Int) == ((clock : Nat) : Int)) = some es.size := by
    rw [findIdx_arr]
    have := findIdx_born (l := (es.push ⟨key, z, clock⟩).toList) (j := es.size) (e0 := ⟨key, z, clock⟩) (by
     simp only [Array.toList_push, List.map_append, List.map_cons, List.map_nil]
     refine List.nodup_append.2 ⟨s2, by simp, fun a ha c hc e1 => ?_⟩
     simp only [List.mem_singleton] at hc
     obtain ⟨x, hx, rfl⟩ := List.mem_map.1 ha
     have := s1 x hx
     omega) (by simp)
    exact this
   have hmod : (es.push ⟨key, z, clock⟩).modify es.size (fun e => { e with val := val }) = es.push ⟨key, val, clock⟩ := by
    apply Array.ext'
    rw [Array.toList_modify, Array.toList_push, Array.toList_push, ← Array.length_toList, modify_last]
   simp [Instr.entryStore, MapKept.run_getObj_map hw2, asInt, asIntOf, goInt, hidx, hmod, MapKept.run_setObj_map _ hw2, Result.andThen, setBlock]
 ·have hj : es[j]? = some e0 := by simpa using h2
  have hsame : es.modify j (fun e => { e with key := key }) = es := by
   apply Array.ext'
   rw [Array.toList_modify, modify_at _ h2]
   have : ({ e0 with key := key } : MapEntry) = e0 := by rw [← h3]
   rw [this]
   exact set_self _ _ _ h2
  refine ⟨e0.val, e0.born, es, clock, ?_, hg _ _ _ _ hb, heap_setBlock_same hb _, ⟨_, h00.kept ((heap_setBlock_same hb _).trans hb.symm), .inl rfl⟩, fun w2 val hw2 => ?_⟩
  ·simp [Instr.mapEntry, run_underlying ht, MapKept.run_getObj_map hb, K.check w false hkey, h1, hj, h3, K.stays w hkey, hsame, MapKept.run_setObj_map _ hb, Result.andThen, setBlock]
  ·obtain ⟨L', f1, f2, f3⟩ := fin w2 _ _ val (es.modify j (fun e' => { e' with key := key, val := val })) clock hw2 (by
    simp [Instr.mapUpdate, run_underlying ht, MapKept.run_getObj_map hb, K.check w false hkey, h1, hj, h3, K.stays w hkey, MapKept.run_setObj_map _ hb, Result.andThen, setBlock])
   refine ⟨_, L', ?_, f1, f2, f3⟩
   have hidx : es.findIdx? (fun e => ((e.born : Nat) : Int) == ((e0.born : Nat) : Int)) = some j := by
    rw [findIdx_arr]
    exact findIdx_born s2 h2
   have hmod : es.modify j (fun e => { e with val := val }) = es.modify j (fun e' => { e' with key := key, val := val }) := by
    apply Array.ext'
    rw [Array.toList_modify, Array.toList_modify, modify_at _ h2, modify_at _ h2, ← h3]
   simp [Instr.entryStore, MapKept.run_getObj_map hw2, asInt, asIntOf, goInt, hidx, hmod, MapKept.run_setObj_map _ hw2, Result.andThen, setBlock]
end
end
section
open Go.RowKit Go.Sort
theorem tQ {P : Program} {id : Nat} {Q : Exit → Act → World → Prop} {a : Act} {w : World} {l : List Oper} (n : Nat) (hm : P.follows .mixedOrders = true) (hB : Region.lexTailB .any l.toArray n = true)
    (h : wpStill P l.toArray w.drew (fun a' => wpList P l.toArray Q (l.drop n) a' w.drew) (l.take n) a) : (Code.region id l.toArray true).wp P Q a w := wp_region_still_tail n hm hB h
theorem gQ (w : World) : Below w.heap.size w w.drew := ⟨rfl, rfl, rfl, Nat.le_refl _, fun _ _ => rfl⟩
theorem FT.congr {α β : Type} {k : TypeId} {enc : α → Value} {ev : β → Value} {b : Nat} {z : β} {f f' : α → β} {w : World} (h : FT k enc ev b z f w) (e : ∀ a, f a = f' a) : FT k enc ev b z f' w := by
 obtain ⟨g, h1, h2⟩ := h
 exact ⟨g, h1, fun a => (h2 a).trans (e a)⟩
theorem FM.congr {α β : Type} {P : Program} {k : TypeId} {enc : α → Value} {ev : β → Value} {b : Nat} {f f' : α → Option β} {w : World} (h : FM P k enc ev b f w) (e : ∀ a, f a = f' a) : FM P k enc ev b f' w := by
 have : f = f' := funext e
 subst this
 exact h
theorem FT.up {α β : Type} {k : TypeId} {enc : α → Value} {ev : β → Value} {b : Nat} {z : β} {f : α → β} {w w' : World} (h : FT k enc ev b z f w) (hb : Below w.heap.size w w') : FT k enc ev b z f w' := h.kept (hb.block b h.lt)
set_option maxRecDepth 100000 in
theorem FT.entry {α β : Type} [DecidableEq α] {k e t : TypeId} {enc : α → Value} {ev : β → Value} {b : Nat} {z : β} {f : α → β} {w : World} (h : FT k enc ev b z f w) (K : Go.Maps.Keyed Tryz.prog k) (ht : Tryz.prog.underlying t = some (.map k e)) (hz : ∀ u : World, (zeroValue e).run Tryz.prog u = .ok (ev z) u) (a : α) (hkey : ∃ kl, keyOf Tryz.prog k (enc a) = some kl) (hi : ∀ x, enc x = enc a → x = a) (hvz : ∀ u, ev u = ev z → u = z) :
    ∃ (v0 : Value) (st : Nat) (es1 : Array MapEntry) (cl1 : Nat), (Instr.mapEntry t (.map (some b)) (enc a)).run Tryz.prog w = .ok (.tuple #[v0, goInt st]) (ChangeMaps.setBlock w b (.map es1 cl1)) ∧ w.grownBy (ChangeMaps.setBlock w b (.map es1 cl1)) (some b) ∧ (ChangeMaps.setBlock w b (.map es1 cl1)).heap[b]? = some (.map es1 cl1) ∧ FT k enc ev b z f (ChangeMaps.setBlock w b (.map es1 cl1)) ∧
     ∀ (w2 : World) (y : β), (∀ u, ev u = ev y → u = y) → w2.heap[b]? = some (.map es1 cl1) → ∃ w3, (Instr.entryStore t (.map (some b)) (goInt st) (ev y)).run Tryz.prog w2 = .ok () w3 ∧ FT k enc ev b z (fun x => if x = a then y else f x) w3 ∧ w2.grownBy w3 (some b) := by
 obtain ⟨kl, hkey⟩ := hkey
 obtain ⟨g, ⟨L, h1, h2, h3⟩, hg⟩ := h
 obtain ⟨v0, st, es1, cl1, e1, e2, e3, ⟨L1, m1, m2⟩, e4⟩ := h1.entry K ht hz hkey
 refine ⟨v0, st, es1, cl1, e1, e2, e3, ?_, fun w2 y hv hw2 => ?_⟩
 ·rcases m2 with rfl | ⟨m2, m3⟩
  ·exact ⟨g, ⟨L1, m1, h2, h3⟩, hg⟩
  ·have hna : g a = none := by
    cases hga : g a with
    | none => rfl
    | some y => exact absurd rfl (m2 _ ((h3 a y).1 hga))
   refine ⟨fun x => if x = a then some z else g x, ⟨L1, m1, fun x hx => ?_, fun a' y' => ?_⟩, fun x => ?_⟩
   ·rcases (m3 x).1 hx with rfl | hx
    ·exact ⟨a, z, rfl⟩
    ·exact h2 x hx
   ·rw [m3]
    show (if a' = a then some z else g a') = some y' ↔ _
    by_cases he : a' = a
    ·subst he
     rw [if_pos rfl]
     constructor
     ·intro h; injection h with h; subst h; exact .inl rfl
     ·rintro (h | h)
      ·injection h with _ h; rw [hvz _ h]
      ·exact absurd rfl (m2 _ h)
    ·rw [if_neg he, h3]
     constructor
     ·exact fun h => .inr h
     ·rintro (h | h)
      ·injection h with h _; exact absurd (hi _ h) he
      ·exact h
   ·show (if x = a then some z else g x).getD z = f x
    by_cases he : x = a
    ·subst he; rw [if_pos rfl, ← hg x, hna]; rfl
    ·rw [if_neg he]; exact hg x
 ·obtain ⟨w3, L', g1, g2, g3, g4⟩ := e4 w2 (ev y) hw2
  refine ⟨w3, g1, ⟨fun x => if x = a then some y else g x, ⟨L', g2, fun x hx => ?_, fun a' y' => ?_⟩, fun x => ?_⟩, g4⟩
  ·rcases (g3 x).1 hx with rfl | ⟨hx, _⟩
   ·exact ⟨a, y, rfl⟩
   ·exact h2 x hx
  ·rw [g3]
   show (if a' = a then some y else g a') = some y' ↔ _
   by_cases he : a' = a
   ·subst he
    rw [if_pos rfl]
    constructor
    ·intro h; injection h with h; subst h; exact .inl rfl
    ·rintro (h | ⟨_, h⟩)
     ·injection h with _ h; rw [hv _ h]
     ·exact absurd rfl h
   ·rw [if_neg he, h3]
    constructor
    ·exact fun h => .inr ⟨h, fun e => he (hi _ e)⟩
    ·rintro (h | ⟨h, _⟩)
     ·injection h with h _; exact absurd (hi _ h) he
     ·exact h
  ·show (if x = a then some y else g x).getD z = if x = a then y else f x
   by_cases he : x = a
   ·simp only [if_pos he]; rfl
   ·simp only [if_neg he]; exact hg x
/-- The fields of a valid event are small. -/
theorem evSmall {e : Ev} (h : evOk e = true) : (0 ≤ e.t ∧ e.t ≤ 1073741824) ∧ (0 ≤ e.n ∧ e.n ≤ 63) ∧ (0 ≤ e.a ∧ e.a ≤ 511) ∧ (0 ≤ e.p ∧ e.p ≤ 1073741824) ∧ (0 ≤ e.r ∧ e.r ≤ 255) := by
 unfold evOk evK at h
 rw [Bool.and_eq_true] at h
 obtain ⟨h1, h⟩ := h
 have h1 := inR_true.1 h1
 refine ⟨h1, ?_⟩
 repeat' split at h
 all_goals first | (cases h; done) | (simp only [Bool.and_eq_true, Bool.or_eq_true, inR_true, beq_iff_eq] at h; omega)
theorem evJ {x k n a p r : Int} (h : evOk ⟨x, k, n, a, p, r⟩ = true) : inJ x ∧ inJ n ∧ inJ a ∧ inJ p ∧ inJ r := by
 have := evSmall h
 simp only at this
 unfold inJ
 omega
/-- What see keeps: the checker, the boxes of the event and of the topology. -/
structure SeeW (w : World) (F : FaN) (A1 A2 O : Option Addr) (c1 c2 co : Nat) (fl : Value) (b : CkB) (pm : Int → Option PkN) (pr : Int → Bool) (x k n a p r : Int) (c : CkS) (X : World) : Prop where
 c : CkAt F A1 A2 O c1 c2 co fl b pm pr c X
 e : Bl 43 w.heap.size #[.int .i64 x, .int .i64 k, .int .i64 n, .int .i64 a, .int .i64 p, .int .i64 r] X
 t : Bl 25 (w.heap.size + 1) #[.int .i64 F.t.n, .slice A1 F.t.ov.length c1, .slice A2 F.t.ls.length c2] X
 kp : Kp b.L w X
section
variable {w X Y : World} {F : FaN} {A1 A2 O : Option Addr} {c1 c2 co : Nat} {fl : Value} {b : CkB} {pm : Int → Option PkN} {pr : Int → Bool} {x k n a p r : Int} {c c' : CkS}
theorem CkAt.lt (h : CkAt F A1 A2 O c1 c2 co fl b pm pr c X) : ∀ j ∈ b.L, j < X.heap.size := by
 intro j hj
 simp only [CkB.L, List.mem_cons, List.not_mem_nil, or_false] at hj
 rcases hj with rfl | rfl | rfl | rfl | rfl | rfl | rfl | rfl | rfl | rfl | rfl | rfl | rfl
 ·exact h.own.lt
 ·exact h.m.pk.lt
 ·exact h.m.pr.lt
 ·exact h.m.dn.lt
 ·exact Bl.lt h.m.st
 ·exact Bl.lt h.m.en
 ·exact Bl.lt h.m.ch
 ·exact Bl.lt h.m.up
 ·exact h.m.sn.lt
 ·exact h.m.sa.lt
 ·exact h.m.ar.lt
 ·exact h.m.fw.lt
 ·exact h.m.cr.lt
theorem SeeW.up (h : SeeW w F A1 A2 O c1 c2 co fl b pm pr x k n a p r c X) (hb : Below X.heap.size X Y) : SeeW w F A1 A2 O c1 c2 co fl b pm pr x k n a p r c Y :=
 ⟨h.c.up hb, h.e.up hb, h.t.up hb, h.kp.next hb⟩
/-- Into one block of the checker something has been written. -/
theorem SeeW.wrote (h : SeeW w F A1 A2 O c1 c2 co fl b pm pr x k n a p r c X) (hlt : ∀ j ∈ b.L, j < w.heap.size) {q : Nat} (hq : q ∈ b.L) (hK : Kp [q] X Y) (hc : CkAt F A1 A2 O c1 c2 co fl b pm pr c' Y) : SeeW w F A1 A2 O c1 c2 co fl b pm pr x k n a p r c' Y := by
 have := hlt q hq
 exact ⟨hc, h.e.kp hK (by simp; omega), h.t.kp hK (by simp; omega), h.kp.trans (hK.mono fun j hj => by rw [List.mem_singleton.1 hj]; exact hq)⟩
/-- Into a block of its own something has been written. -/
theorem SeeW.far (h : SeeW w F A1 A2 O c1 c2 co fl b pm pr x k n a p r c X) (hlt : ∀ j ∈ b.L, j < w.heap.size) {q : Nat} (hq : w.heap.size + 2 ≤ q) (hK : Kp [q] X Y) : SeeW w F A1 A2 O c1 c2 co fl b pm pr x k n a p r c Y :=
 ⟨h.c.kp hK (fun j hj => by have := hlt j hj; simp; omega), h.e.kp hK (by simp; omega), h.t.kp hK (by simp; omega), h.kp.trans' hK fun j hj => by rw [List.mem_singleton.1 hj]; right; omega⟩
theorem kp_of {q : Nat} (hg : X.grownBy Y (some q)) : Kp [q] X Y := Kp.map (Kp.refl _ _) hg (by simp)
theorem kp_blk {q : Nat} (hK : Kp [q] X Y) : ∀ k, k ≠ q → k < X.heap.size → Y.heap[k]? = X.heap[k]? := fun k hk hl => hK.blk k hl (by simpa using hk)
theorem kp_cell {q j : Nat} {v : Value} : Kp [q] X (X.setCell ⟨q, j, none⟩ v) := Kp.set (Kp.refl _ _) (by simp) v
end
section
variable {w w0 : World} {F : FaN} {A1 A2 O : Option Addr} {c1 c2 co : Nat} {fl : Value} {b : CkB} {pm : Int → Option PkN} {pr : Int → Bool}
/-- A list of ints in memory of its own, where it lies. -/
theorem own_far {w : World} {B : Nat} {E : TypeId} {v : Value} {n : Nat} {xs : List Value} (h : w.ownsRow B E 1 v n xs) : ∃ A c, v = .slice A n c ∧ Rd w A xs ∧ ∀ p, A = some p → B ≤ p.block := by
 have h0 := h
 obtain ⟨A, c, rfl, _, _, hr⟩ := rd_of_own h
 refine ⟨A, c, rfl, hr, fun p hp => ?_⟩
 subst hp
 rcases h0 with ⟨hl, ⟨e, _⟩ | ⟨g, cap, cur, e, hB, _⟩⟩
 ·injection e with e; cases e
 ·injection e with e; injection e with e; subst e; exact hB
theorem Rd.kpV {X : List Nat} {W W' : World} {A : Option Addr} {xs : List Value} (h : Rd W A xs) (hK : Kp X W W') (hne : ∀ p, A = some p → p.block ∉ X) : Rd W' A xs := by
 rcases h with h | ⟨b, o, rfl, hc⟩
 ·exact .inl h
 ·refine .inr ⟨b, o, rfl, fun j u hu => ?_⟩
  have h1 := hc j u hu
  have hlt : b < W.heap.size := by
   rcases Nat.lt_or_ge b W.heap.size with h2 | h2
   ·exact h2
   ·simp [World.cell?, Array.getElem?_eq_none h2] at h1
  rw [World.cell?_of_block (w := W) (hK.blk b hlt (hne _ rfl))]
  exact h1
theorem foldl_len : ∀ (l : List Int) (u : List Bool), (l.foldl (fun u (a : Int) => u.set a.toNat false) u).length = u.length
 | [], _ => rfl
 | a :: l, u => by rw [List.foldl_cons, foldl_len l]; simp
theorem foldl_get : ∀ (l : List Int) (u : List Bool) (j : Nat), (∀ a ∈ l, 0 ≤ a) → (l.foldl (fun u (a : Int) => u.set a.toNat false) u).getD j false = (u.getD j false && !l.contains (j : Int))
 | [], u, j, _ => by simp
 | a :: l, u, j, h => by
  rw [List.foldl_cons, foldl_get l _ j (fun b hb => h b (by simp [hb]))]
  have ha := h a (by simp)
  rw [List.contains_cons, List.getD_eq_getElem?_getD, List.getElem?_set, List.getD_eq_getElem?_getD]
  by_cases e : a.toNat = j
  ·have e2 : ((j : Int) == a) = true := by rw [beq_iff_eq]; omega
   rw [if_pos e, e2]
   by_cases hj : a.toNat < u.length <;> simp [hj]
  ·have e2 : ((j : Int) == a) = false := by rw [beq_eq_false_iff_ne]; omega
   rw [if_neg e, e2, Bool.false_or]
theorem off_fold (t : Topo) (r : Int) (u : List Bool) (hu : u.length = 2 * t.ls.length) : (ups (outP t r) (2 * t.ls.length)).foldl (fun u (a : Int) => u.set a.toNat false) u = offU t r u := by
 refine List.ext_getElem (by rw [foldl_len, offU_len]) fun j h1 h2 => ?_
 have hj : j < u.length := by rw [foldl_len] at h1; exact h1
 have e1 := foldl_get (ups (outP t r) (2 * t.ls.length)) u j (fun a ha => (mem_ups.1 ha).1)
 have e2 := offU_at t r u (j := (j : Int)) (by omega) (by omega)
 rw [List.getD_eq_getElem?_getD, List.getElem?_eq_getElem h1] at e1
 rw [List.getD_eq_getElem?_getD, show ((j : Int)).toNat = j by omega, List.getElem?_eq_getElem h2] at e2
 have e3 : (ups (outP t r) (2 * t.ls.length)).contains (j : Int) = (tail t (j : Int) == r) := by
  rw [Bool.eq_iff_iff, List.contains_iff_mem, mem_ups]
  unfold outP
  constructor
  ·exact fun h => h.2.2
  ·exact fun h => ⟨by omega, by omega, h⟩
 rw [e3] at e1
 exact by simpa using e1.trans e2.symm
set_option maxRecDepth 100000 in
set_option maxHeartbeats 16000000 in
theorem vy_see6 (c : CkS) (x n a p r : Int) (hC : CkAt F A1 A2 O c1 c2 co fl b pm pr c w) (hle : ∀ j ∈ b.L, w0.heap.size ≤ j) (h0 : Below w0.heap.size w0 w) (hT : TAt w0 A1 A2 F.t) (hv : valid F.t = true) (hev : evOk ⟨x, 6, n, a, p, r⟩ = true) (hnm : xQ F.t ⟨x, 6, n, a, p, r⟩ = true)
    (l1 : c.st.length = F.t.n.toNat) (l2 : c.en.length = F.t.n.toNat) (l3 : c.ch.length = F.t.n.toNat) (l4 : c.up.length = 2 * F.t.ls.length) (hcr : ∀ q j, 0 ≤ c.cr q j ∧ c.cr q j ≤ 1000000) :
    Calls Tryz.prog 28 #[.pointer (some ⟨b.cb, 0, none⟩), .agg #[.int .i64 x, .int .i64 6, .int .i64 n, .int .i64 a, .int .i64 p, .int .i64 r]] w fun e w' => e = .returned (.tuple #[]) ∧ CkAt F A1 A2 O c1 c2 co fl b pm pr (seeS F.t c ⟨x, 6, n, a, p, r⟩) w' ∧ Kp b.L w w' := by
 have hlt : ∀ j ∈ b.L, j < w.heap.size := hC.lt
 obtain ⟨R, hR⟩ : ∃ R, R = seeS F.t c ⟨x, 6, n, a, p, r⟩ := ⟨_, rfl⟩
 rw [← hR]
 have HR := hU hR
 have HC0 := hU hC
 have HLE := hU hle
 have HLT := hU hlt
 have HB0 := hU h0
 have HT := hU hT
 have HV := hU hv
 have HL1 := hU l1
 have HL2 := hU l2
 have HL3 := hU l3
 have HL4 := hU l4
 have HCR := hU hcr
 have HN := hU (iZ hv)
 have HLL := hU (zQ hv)
 have HTW : Hid (∀ W, Kp b.L w W → TAt W A1 A2 F.t) := hU (fun W hK => HT.out.below (hK.below HB0.out HB0.out.size HLE.out))
 have HNM := hU hnm
 have HEV := hU hev
 have z0 := hC.q0
 have z1 := hC.q1
 have z2 := hC.q2
 have u1 := hC.own.lt
 have u2 : b.cb ≠ w.heap.size := Nat.ne_of_lt u1
 have u3 : w.heap.size ≠ b.cb := fun e => u2 e.symm
 have HJx : Hid (inJ x) := hU (evJ hev).1
 have HJn : Hid (inJ n) := hU (evJ hev).2.1
 have HJa : Hid (inJ a) := hU (evJ hev).2.2.1
 have HJp : Hid (inJ p) := hU (evJ hev).2.2.2.1
 have HJr : Hid (inJ r) := hU (evJ hev).2.2.2.2
 clear hR hC hle hlt h0 hT hv l1 l2 l3 l4 hcr hnm hev
 by_cases ha : a = 2
 ·subst ha
  have hrb : 0 ≤ r ∧ r < F.t.n := by
   have := HNM.out
   simp [xQ, gZ, compOk2] at this
   exact isN_true.1 this.2
  obtain ⟨hr0, hr1⟩ := hrb
  obtain ⟨M, hM⟩ : ∃ M, M = F.t.n.toNat := ⟨_, rfl⟩
  rw [← hM] at HL1 HL2 HL3
  have hrM : r < (M : Int) := by omega
  have hM64 : M ≤ 64 := by have := HN.out; omega
  have HM := hU hM
  have HRU : Hid (R = { c with dn := fun n => if n = r then false else c.dn n, st := c.st.set r.toNat 3, up := offU F.t r c.up }) := hU (by rw [HR.out]; rfl)
  clear HR hM
  go_enter Tryz.func28, Tryz.ntmps28
  go_upto_region 2 with fail
  refine kQ (fun X => SeeW w F A1 A2 O c1 c2 co fl b pm pr x 6 n 2 p r c X) ⟨HC0.out.up (aZ w _ _), (Bl.new w _ _).up (cQ _ _), by simpa using Bl.new (w.alloc (.cells #[.int .i64 x, .int .i64 6, .int .i64 n, .int .i64 2, .int .i64 p, .int .i64 r] 43)) _ _, Kp.of (aZ w _ _)⟩ ?_
  intro X hX
  have HX := hU hX
  clear hX z0 z1 z2 u1 u2 u3 HC0
  obtain ⟨e0, e1, e2, e3, e4, e5, _⟩ := HX.out.e.c6
  obtain ⟨y0, y1, y2, _⟩ := HX.out.t.c3
  have z10 := HX.out.c.q10
  go_upto_region 19 with fail
  obtain ⟨w9, hu, hf9, hg9⟩ := (HX.out.up (gQ _)).c.m.dn.del (ty := 0) key_int Tryz.underlying62 r (keyJ HJr.out) (enc1_inj r)
  unfold enc1 at hu
  have HK9 := hU (kp_of hg9)
  have HF9 := hU hf9
  clear hf9 hg9
  refine tQ 6 (by kernel_rfl) (by kernel_rfl) ?_
  simp only [List.take_succ_cons, List.take_zero, List.drop_succ_cons, List.drop_zero]
  repeat still_step
  refine wpStill_nil ?_
  replace HX := hU (SeeW.wrote (HX.out.up (gQ _)) HLT.out (q := b.dn) (by simp [CkB.L]) HK9.out (CkAt.on_dn (HX.out.up (gQ _)).c (kp_blk HK9.out) (fun q => if q = r then false else c.dn q) HF9.out))
  clear HK9 HF9
  go_upto_region 20 with fail
  refine kQ (fun Y => SeeW w F A1 A2 O c1 c2 co fl b pm pr x 6 n 2 p r { c with dn := fun q => if q = r then false else c.dn q } Y) HX.out ?_
  clear HX
  intro X hX
  have HX := hU hX
  clear hX
  obtain ⟨e0, e1, e2, e3, e4, e5, _⟩ := HX.out.e.c6
  obtain ⟨y0, y1, y2, _⟩ := HX.out.t.c3
  have z11 := HX.out.c.q11
  have hln : ({ c with dn := fun q => if q = r then false else c.dn q } : CkS).st.length = M := by simp [HL1.out]
  rw [hln] at z11
  have hcl := RowI.cell (i := r) HX.out.c.m.st (by omega) (by rw [hln]; omega)
  clear hln
  have hfz : X.frozen? ⟨b.st, (r).toNat, none⟩ = false := Bl.frz HX.out.c.m.st _
  refine tQ 7 (by kernel_rfl) (by kernel_rfl) ?_
  simp only [List.take_succ_cons, List.take_zero, List.drop_succ_cons, List.drop_zero]
  repeat still_step
  refine wpStill_nil ?_
  replace HX := hU (SeeW.wrote (HX.out.up (gQ _)) HLT.out (q := b.st) (by simp [CkB.L]) (kp_cell (j := (r).toNat) (v := .int .i64 3)) (CkAt.on_st (HX.out.up (gQ _)).c (kp_blk kp_cell) (c.st.set (r).toNat 3) (by simp) (RowI.set (HX.out.up (gQ _)).c.m.st (r).toNat 3)))
  clear hu
  go_upto_region 21 with fail
  refine kQ (fun Y => SeeW w F A1 A2 O c1 c2 co fl b pm pr x 6 n 2 p r { { c with dn := fun q => if q = r then false else c.dn q } with st := c.st.set r.toNat 3 } Y) HX.out ?_
  clear HX
  intro X hX
  have HX := hU hX
  clear hX
  obtain ⟨e0, e1, e2, e3, e4, e5, _⟩ := HX.out.e.c6
  obtain ⟨y0, y1, y2, _⟩ := HX.out.t.c3
  obtain ⟨l, hl⟩ : ∃ l, l = ups (outP F.t r) (2 * F.t.ls.length) := ⟨_, rfl⟩
  have HUP := hU (show b.up < X.heap.size from Bl.lt HX.out.c.m.up)
  have hln : l.length ≤ 512 := by have := HLL.out; rw [hl]; exact Nat.le_trans (ups_le _ _) (by omega)
  have hlm : ∀ a ∈ l, 0 ≤ a ∧ a < 2 * (F.t.ls.length : Int) := fun a ha => by
   rw [hl] at ha
   have := mem_ups.1 ha
   omega
  have HLM := hU hlm
  have HOUT := hU (graph_OutO F.t A1 A2 c1 c2 r X (HTW.out _ HX.out.kp) (by have := HLL.out; omega))
  rw [← hl] at HOUT
  have HLD := hU hl
  clear hl hlm
  go_wp2_with (go_at_call 60; (with_reducible refine (HOUT.out).mono ?_); rintro e w10 ⟨v, rfl, ho, hb⟩; obtain ⟨A, cc, rfl, hrd, hfar⟩ := own_far ho; have HRD := hU hrd; have HFAR := hU (show ∀ q, A = some q → q.block ∉ [b.up] from fun q hq => by have := hfar q hq; have := HUP.out; simp; omega); replace HX := hU (HX.out.up hb); clear ho hb hrd hfar HOUT HUP e0 e1 e2 e3 e4 e5 y0 y1 y2)
  go_loopw [137] (fun i wr => ∃ k : Nat, k ≤ l.length ∧ i = .int .i64 k ∧ Hid (Rd wr A (l.map (Value.int .i64))) ∧ Hid (SeeW w F A1 A2 O c1 c2 co fl b pm pr x 6 n 2 p r { { { c with dn := fun q => if q = r then false else c.dn q } with st := c.st.set r.toNat 3 } with up := (l.take k).foldl (fun u a => u.set a.toNat false) c.up } wr)) (fun i _ => l.length - (intOf i).toNat)
  case atStart => exact ⟨0, Nat.zero_le _, rfl, HRD, HX⟩
  case round =>
   clear HX HRD
   obtain ⟨k, hk, rfl, HRD, HX⟩ := hrel
   by_cases hlt : k < l.length
   ·have hlt' : (k : Int) < (l.length : Int) := by omega
    obtain ⟨bz, oz, ar, hAz, haz, caz⟩ := ints_at HRD.out hlt
    have HTK : Hid (l.take (k + 1) = l.take k ++ [ar]) := hU (by rw [List.take_add_one, haz]; rfl)
    obtain ⟨ha0, ha1⟩ := HLM.out ar (List.mem_of_getElem? haz)
    have hul : ((l.take k).foldl (fun u (a : Int) => u.set a.toNat false) c.up).length = 2 * F.t.ls.length := by rw [foldl_len, HL4.out]
    have z14 : wr.cell? ⟨b.cb, 14, none⟩ = some (.slice (some ⟨b.up, 0, none⟩) (2 * F.t.ls.length) (2 * F.t.ls.length)) := by rw [← hul]; exact HX.out.c.q14
    have hcl := RowB.cell (i := ar) HX.out.c.m.up ha0 (by rw [hul]; omega)
    have hfz : wr.frozen? ⟨b.up, ar.toNat, none⟩ = false := Bl.frz HX.out.c.m.up _
    have hll := HLL.out
    clear haz
    subst hAz
    go_wp2_with fail
    go_roundw
    case rel => exact ⟨k + 1, by omega, by go_num, hU (HRD.out.kpV kp_cell HFAR.out), hU (by
     rw [HTK.out, List.foldl_append]
     exact SeeW.wrote HX.out HLT.out (q := b.up) (by simp [CkB.L]) (kp_cell (j := ar.toNat) (v := .bool false)) (CkAt.on_up HX.out.c (kp_blk kp_cell) _ (by simp) (RowB.set HX.out.c.m.up ar.toNat false)))⟩
    case measure => simp [intOf]; omega
   ·obtain rfl : k = l.length := by omega
    go_wp2_with fail
    go_end0
    refine ⟨rfl, ?_, HX.out.kp⟩
    have hc := HX.out.c
    rw [List.take_length, show l.foldl (fun u (a : Int) => u.set a.toNat false) c.up = offU F.t r c.up from by rw [HLD.out]; exact off_fold F.t r c.up HL4.out] at hc
    rw [HRU.out]
    exact hc
 ·skip
  go_enter Tryz.func28, Tryz.ntmps28
  go_upto_region 2 with fail
  refine kQ (fun X => SeeW w F A1 A2 O c1 c2 co fl b pm pr x 6 n a p r c X) ⟨HC0.out.up (aZ w _ _), (Bl.new w _ _).up (cQ _ _), by simpa using Bl.new (w.alloc (.cells #[.int .i64 x, .int .i64 6, .int .i64 n, .int .i64 a, .int .i64 p, .int .i64 r] 43)) _ _, Kp.of (aZ w _ _)⟩ ?_
  intro X hX
  have HX := hU hX
  clear hX z0 z1 z2 u1 u2 u3 HC0
  obtain ⟨e0, e1, e2, e3, e4, e5, _⟩ := HX.out.e.c6
  obtain ⟨y0, y1, y2, _⟩ := HX.out.t.c3
  have z10 := HX.out.c.q10
  go_wp2_with fail
  go_end0
  refine ⟨rfl, ?_, HX.out.kp⟩
  have hc := HX.out.c
  rw [HR.out]
  rwa [show seeS F.t c ⟨x, 6, n, a, p, r⟩ = c from by simp [seeS, ha]]
end
end
end Go.Proofs.YtdnjflpmbnjgeaaGreat
