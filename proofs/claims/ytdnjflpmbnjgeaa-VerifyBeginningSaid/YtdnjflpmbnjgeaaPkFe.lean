/-
  m[k]++ on a map that the code itself has made: the entry is made, then written.
  A checker takes an event into account (printed by gen_vye.py).
-/
import Derived.Test.YtdnjflpmbnjgeaaPkFm
import Derived.WideKeyEntry
import Derived.Test.YtdnjflpmbnjgeaaVyN
import Derived.Test.YtdnjflpmbnjgeaaPkOut
import Derived.StillTailTactics
namespace Go.Proofs.Ytdnjflpmbnjgeaa
set_option linter.unusedSimpArgs false
set_option linter.unusedVariables false
open Go.RowKit Go.Sort Go.ChangeMaps Go.MapKept
open Go.Maps (Keyed)
open Go.WideElems (findIdx_born findIdx_arr modify_last set_self)
section
variable {P : Program} {k e t : TypeId} {b : Nat} {L : List (Value × Value)} {w : World}
theorem modify_at {l : List MapEntry} {j : Nat} {e0 : MapEntry} (f : MapEntry → MapEntry) (h : l[j]? = some e0) : l.modify j f = l.set j (f e0) := by
  refine List.ext_getElem? fun i => ?_
  rw [List.getElem?_modify, List.getElem?_set]
  by_cases e : j = i
  · subst e
    obtain ⟨h1, h2⟩ := List.getElem?_eq_some_iff.1 h
    simp [h1, h2]
  · simp [e]
theorem MapAt.entry (h : MapAt P k b L w) (K : Keyed P k) (ht : P.underlying t = some (.map k e)) {z : Value} (hz : ∀ u : World, (zeroValue e).run P u = .ok z u) {key : Value} {kl : Lit} (hkey : keyOf P k key = some kl) :
    ∃ (v0 : Value) (st : Nat) (es1 : Array MapEntry) (cl1 : Nat), (Instr.mapEntry t (.map (some b)) key).run P w = .ok (.tuple #[v0, goInt st]) (setBlock w b (.map es1 cl1)) ∧ w.grownBy (setBlock w b (.map es1 cl1)) (some b) ∧ (setBlock w b (.map es1 cl1)).heap[b]? = some (.map es1 cl1) ∧ (∃ L1, MapAt P k b L1 (setBlock w b (.map es1 cl1)) ∧ (L1 = L ∨ ((∀ x ∈ L, x.1 ≠ key) ∧ ∀ x, x ∈ L1 ↔ x = (key, z) ∨ x ∈ L))) ∧
      ∀ (w2 : World) (val : Value), w2.heap[b]? = some (.map es1 cl1) → ∃ w3 L', (Instr.entryStore t (.map (some b)) (goInt st) val).run P w2 = .ok () w3 ∧ MapAt P k b L' w3 ∧ (∀ x, x ∈ L' ↔ x = (key, val) ∨ (x ∈ L ∧ x.1 ≠ key)) ∧ w2.grownBy w3 (some b) := by
  have hw := fun v => h.write K ht hkey v
  have h00 := h
  obtain ⟨es, clock, hb, rfl, hk, hn, s1, s2, s3⟩ := h
  have hg : ∀ (w : World) (e0 : Array MapEntry) (q0 : Nat) (o1 : Obj), w.heap[b]? = some (.map e0 q0) → w.grownBy (setBlock w b o1) (some b) := fun w e0 q0 o1 hb => ⟨rfl, rfl, rfl, by simp [setBlock], fun i _ hi => heap_setBlock_other hb _ (fun e => hi (by rw [e]))⟩
  have fin : ∀ (w2 : World) (e0 : Array MapEntry) (q0 : Nat) (val : Value) (es' : Array MapEntry) (clock' : Nat), w2.heap[b]? = some (.map e0 q0) → (Instr.mapUpdate t (.map (some b)) key val).run P w = .ok () (setBlock w b (.map es' clock')) →
      ∃ L', MapAt P k b L' (setBlock w2 b (.map es' clock')) ∧ (∀ x, x ∈ L' ↔ x = (key, val) ∨ (x ∈ es.toList.map (fun e => (e.key, e.val)) ∧ x.1 ≠ key)) ∧ w2.grownBy (setBlock w2 b (.map es' clock')) (some b) := by
    intro w2 e0 q0 val es' clock' hw2 hu
    obtain ⟨w', L', h1, h2, h3, h4⟩ := hw val
    rw [hu] at h1
    injection h1 with _ h1
    subst h1
    refine ⟨L', ?_, h3, hg _ _ _ _ hw2⟩
    obtain ⟨es2, cl2, g1, g2⟩ := h2
    rw [heap_setBlock_same hb] at g1
    exact ⟨es2, cl2, (heap_setBlock_same hw2 _).trans g1, g2⟩
  rcases K.find w hkey es.toList (fun e he => hk (e.key, e.val) (List.mem_map.2 ⟨e, he, rfl⟩)) with ⟨h1, h2⟩ | ⟨j, e0, h1, h2, h3⟩
  · refine ⟨z, clock, es.push ⟨key, z, clock⟩, clock + 1, ?_, hg _ _ _ _ hb, heap_setBlock_same hb _, ?_, fun w2 val hw2 => ?_⟩
    · simp [Instr.mapEntry, run_underlying ht, MapKept.run_getObj_map hb, K.check w false hkey, h1, hz, MapKept.run_setObj_map _ hb, Result.andThen, setBlock]
    · obtain ⟨w', L', q1, q2, q3, q4⟩ := hw z
      have hu : (Instr.mapUpdate t (.map (some b)) key z).run P w = .ok () (setBlock w b (.map (es.push ⟨key, z, clock⟩) (clock + 1))) := by
        simp [Instr.mapUpdate, run_underlying ht, MapKept.run_getObj_map hb, K.check w false hkey, h1, MapKept.run_setObj_map _ hb, Result.andThen, setBlock]
      rw [hu] at q1
      injection q1 with _ q1
      subst q1
      have hno : ∀ x ∈ es.toList.map (fun e => (e.key, e.val)), x.1 ≠ key := fun x hx => by
        obtain ⟨y, hy, rfl⟩ := List.mem_map.1 hx
        exact h2 y hy
      exact ⟨L', q2, .inr ⟨hno, fun x => (q3 x).trans ⟨fun h => h.imp id (fun h => h.1), fun h => h.imp id (fun h => ⟨h, hno x h⟩)⟩⟩⟩
    · obtain ⟨L', f1, f2, f3⟩ := fin w2 _ _ val (es.push ⟨key, val, clock⟩) (clock + 1) hw2 (by
        simp [Instr.mapUpdate, run_underlying ht, MapKept.run_getObj_map hb, K.check w false hkey, h1, MapKept.run_setObj_map _ hb, Result.andThen, setBlock])
      refine ⟨_, L', ?_, f1, f2, f3⟩
      have hidx : (es.push ⟨key, z, clock⟩).findIdx? (fun e => ((e.born : Nat) : Int) == ((clock : Nat) : Int)) = some es.size := by
        rw [findIdx_arr]
        have := findIdx_born (l := (es.push ⟨key, z, clock⟩).toList) (j := es.size) (e0 := ⟨key, z, clock⟩) (by
          simp only [Array.toList_push, List.map_append, List.map_cons, List.map_nil]
          refine List.nodup_append.2 ⟨s2, by simp, fun a ha c hc e1 => ?_⟩
          simp only [List.mem_singleton] at hc
          obtain ⟨x, hx, rfl⟩ := List.mem_map.1 ha
          have := s1 x hx
          omega) (by simp)
        exact this
      have hmod : (es.push ⟨key, z, clock⟩).modify es.size (fun e => { e with val := val }) = es.push ⟨key, val, clock⟩ := by
        apply Array.ext'
        rw [Array.toList_modify, Array.toList_push, Array.toList_push, ← Array.length_toList, modify_last]
      simp [Instr.entryStore, MapKept.run_getObj_map hw2, asInt, asIntOf, goInt, hidx, hmod, MapKept.run_setObj_map _ hw2, Result.andThen, setBlock]
  · have hj : es[j]? = some e0 := by simpa using h2
    have hsame : es.modify j (fun e => { e with key := key }) = es := by
      apply Array.ext'
      rw [Array.toList_modify, modify_at _ h2]
      have : ({ e0 with key := key } : MapEntry) = e0 := by rw [← h3]
      rw [this]
      exact set_self _ _ _ h2
    refine ⟨e0.val, e0.born, es, clock, ?_, hg _ _ _ _ hb, heap_setBlock_same hb _, ⟨_, h00.kept ((heap_setBlock_same hb _).trans hb.symm), .inl rfl⟩, fun w2 val hw2 => ?_⟩
    · simp [Instr.mapEntry, run_underlying ht, MapKept.run_getObj_map hb, K.check w false hkey, h1, hj, h3, K.stays w hkey, hsame, MapKept.run_setObj_map _ hb, Result.andThen, setBlock]
    · obtain ⟨L', f1, f2, f3⟩ := fin w2 _ _ val (es.modify j (fun e' => { e' with key := key, val := val })) clock hw2 (by
        simp [Instr.mapUpdate, run_underlying ht, MapKept.run_getObj_map hb, K.check w false hkey, h1, hj, h3, K.stays w hkey, MapKept.run_setObj_map _ hb, Result.andThen, setBlock])
      refine ⟨_, L', ?_, f1, f2, f3⟩
      have hidx : es.findIdx? (fun e => ((e.born : Nat) : Int) == ((e0.born : Nat) : Int)) = some j := by
        rw [findIdx_arr]
        exact findIdx_born s2 h2
      have hmod : es.modify j (fun e => { e with val := val }) = es.modify j (fun e' => { e' with key := key, val := val }) := by
        apply Array.ext'
        rw [Array.toList_modify, Array.toList_modify, modify_at _ h2, modify_at _ h2, ← h3]
      simp [Instr.entryStore, MapKept.run_getObj_map hw2, asInt, asIntOf, goInt, hidx, hmod, MapKept.run_setObj_map _ hw2, Result.andThen, setBlock]
end
end Go.Proofs.Ytdnjflpmbnjgeaa
namespace Go.Proofs.Ytdnjflpmbnjgeaa
set_option linter.unusedSimpArgs false
set_option linter.unusedVariables false
open Go.RowKit Go.Sort
theorem wp_region_still_tailV {P : Program} {id : Nat} {Q : Exit → Act → World → Prop} {a : Act} {w : World} {l : List Oper} (n : Nat) (hm : P.follows .mixedOrders = true) (hB : Region.lexTailB .any l.toArray n = true)
    (h : wpStill P l.toArray w.drew (fun a' => wpList P l.toArray Q (l.drop n) a' w.drew) (l.take n) a) : (Code.region id l.toArray true).wp P Q a w := wp_region_still_tail n hm hB h
theorem below_drwV (w : World) : Below w.heap.size w w.drew := ⟨rfl, rfl, rfl, Nat.le_refl _, fun _ _ => rfl⟩
theorem FT.congr {α β : Type} {k : TypeId} {enc : α → Value} {ev : β → Value} {b : Nat} {z : β} {f f' : α → β} {w : World} (h : FT k enc ev b z f w) (e : ∀ a, f a = f' a) : FT k enc ev b z f' w := by
  obtain ⟨g, h1, h2⟩ := h
  exact ⟨g, h1, fun a => (h2 a).trans (e a)⟩
theorem FM.congr {α β : Type} {P : Program} {k : TypeId} {enc : α → Value} {ev : β → Value} {b : Nat} {f f' : α → Option β} {w : World} (h : FM P k enc ev b f w) (e : ∀ a, f a = f' a) : FM P k enc ev b f' w := by
  have : f = f' := funext e
  subst this
  exact h
theorem FT.up {α β : Type} {k : TypeId} {enc : α → Value} {ev : β → Value} {b : Nat} {z : β} {f : α → β} {w w' : World} (h : FT k enc ev b z f w) (hb : Below w.heap.size w w') : FT k enc ev b z f w' := h.kept (hb.block b h.lt)
set_option maxRecDepth 100000 in
theorem FT.entry {α β : Type} [DecidableEq α] {k e t : TypeId} {enc : α → Value} {ev : β → Value} {b : Nat} {z : β} {f : α → β} {w : World} (h : FT k enc ev b z f w) (K : Go.Maps.Keyed Try.prog k) (ht : Try.prog.underlying t = some (.map k e)) (hz : ∀ u : World, (zeroValue e).run Try.prog u = .ok (ev z) u) (a : α) (hkey : ∃ kl, keyOf Try.prog k (enc a) = some kl) (hi : ∀ x, enc x = enc a → x = a) (hvz : ∀ u, ev u = ev z → u = z) :
    ∃ (v0 : Value) (st : Nat) (es1 : Array MapEntry) (cl1 : Nat), (Instr.mapEntry t (.map (some b)) (enc a)).run Try.prog w = .ok (.tuple #[v0, goInt st]) (ChangeMaps.setBlock w b (.map es1 cl1)) ∧ w.grownBy (ChangeMaps.setBlock w b (.map es1 cl1)) (some b) ∧ (ChangeMaps.setBlock w b (.map es1 cl1)).heap[b]? = some (.map es1 cl1) ∧ FT k enc ev b z f (ChangeMaps.setBlock w b (.map es1 cl1)) ∧
      ∀ (w2 : World) (y : β), (∀ u, ev u = ev y → u = y) → w2.heap[b]? = some (.map es1 cl1) → ∃ w3, (Instr.entryStore t (.map (some b)) (goInt st) (ev y)).run Try.prog w2 = .ok () w3 ∧ FT k enc ev b z (fun x => if x = a then y else f x) w3 ∧ w2.grownBy w3 (some b) := by
  obtain ⟨kl, hkey⟩ := hkey
  obtain ⟨g, ⟨L, h1, h2, h3⟩, hg⟩ := h
  obtain ⟨v0, st, es1, cl1, e1, e2, e3, ⟨L1, m1, m2⟩, e4⟩ := h1.entry K ht hz hkey
  refine ⟨v0, st, es1, cl1, e1, e2, e3, ?_, fun w2 y hv hw2 => ?_⟩
  · rcases m2 with rfl | ⟨m2, m3⟩
    · exact ⟨g, ⟨L1, m1, h2, h3⟩, hg⟩
    · have hna : g a = none := by
        cases hga : g a with
        | none => rfl
        | some y => exact absurd rfl (m2 _ ((h3 a y).1 hga))
      refine ⟨fun x => if x = a then some z else g x, ⟨L1, m1, fun x hx => ?_, fun a' y' => ?_⟩, fun x => ?_⟩
      · rcases (m3 x).1 hx with rfl | hx
        · exact ⟨a, z, rfl⟩
        · exact h2 x hx
      · rw [m3]
        show (if a' = a then some z else g a') = some y' ↔ _
        by_cases he : a' = a
        · subst he
          rw [if_pos rfl]
          constructor
          · intro h; injection h with h; subst h; exact .inl rfl
          · rintro (h | h)
            · injection h with _ h; rw [hvz _ h]
            · exact absurd rfl (m2 _ h)
        · rw [if_neg he, h3]
          constructor
          · exact fun h => .inr h
          · rintro (h | h)
            · injection h with h _; exact absurd (hi _ h) he
            · exact h
      · show (if x = a then some z else g x).getD z = f x
        by_cases he : x = a
        · subst he; rw [if_pos rfl, ← hg x, hna]; rfl
        · rw [if_neg he]; exact hg x
  · obtain ⟨w3, L', g1, g2, g3, g4⟩ := e4 w2 (ev y) hw2
    refine ⟨w3, g1, ⟨fun x => if x = a then some y else g x, ⟨L', g2, fun x hx => ?_, fun a' y' => ?_⟩, fun x => ?_⟩, g4⟩
    · rcases (g3 x).1 hx with rfl | ⟨hx, _⟩
      · exact ⟨a, y, rfl⟩
      · exact h2 x hx
    · rw [g3]
      show (if a' = a then some y else g a') = some y' ↔ _
      by_cases he : a' = a
      · subst he
        rw [if_pos rfl]
        constructor
        · intro h; injection h with h; subst h; exact .inl rfl
        · rintro (h | ⟨_, h⟩)
          · injection h with _ h; rw [hv _ h]
          · exact absurd rfl h
      · rw [if_neg he, h3]
        constructor
        · exact fun h => .inr ⟨h, fun e => he (hi _ e)⟩
        · rintro (h | ⟨h, _⟩)
          · injection h with h _; exact absurd (hi _ h) he
          · exact h
    · show (if x = a then some y else g x).getD z = if x = a then y else f x
      by_cases he : x = a
      · simp only [if_pos he]; rfl
      · simp only [if_neg he]; exact hg x
/-- The fields of a valid event are small. -/
theorem evSmall {e : Ev} (h : evOk e = true) : (0 ≤ e.t ∧ e.t ≤ 1073741824) ∧ (0 ≤ e.n ∧ e.n ≤ 63) ∧ (0 ≤ e.a ∧ e.a ≤ 511) ∧ (0 ≤ e.p ∧ e.p ≤ 1073741824) ∧ (0 ≤ e.r ∧ e.r ≤ 255) := by
  unfold evOk evK at h
  rw [Bool.and_eq_true] at h
  obtain ⟨h1, h⟩ := h
  have h1 := inR_true.1 h1
  refine ⟨h1, ?_⟩
  repeat' split at h
  all_goals first | (cases h; done) | (simp only [Bool.and_eq_true, Bool.or_eq_true, inR_true, beq_iff_eq] at h; omega)
theorem evJ {x k n a p r : Int} (h : evOk ⟨x, k, n, a, p, r⟩ = true) : inJ x ∧ inJ n ∧ inJ a ∧ inJ p ∧ inJ r := by
  have := evSmall h
  simp only at this
  unfold inJ
  omega
/-- What see keeps: the checker, the boxes of the event and of the topology. -/
structure SeeW (w : World) (F : FaN) (A1 A2 O : Option Addr) (c1 c2 co : Nat) (fl : Value) (b : CkB) (pm : Int → Option PkN) (pr : Int → Bool) (x k n a p r : Int) (c : CkS) (X : World) : Prop where
  c : CkAt F A1 A2 O c1 c2 co fl b pm pr c X
  e : Bl 49 w.heap.size #[.int .i64 x, .int .i64 k, .int .i64 n, .int .i64 a, .int .i64 p, .int .i64 r] X
  t : Bl 25 (w.heap.size + 1) #[.int .i64 F.t.n, .slice A1 F.t.ov.length c1, .slice A2 F.t.ls.length c2] X
  kp : Kp b.L w X
section
variable {w X Y : World} {F : FaN} {A1 A2 O : Option Addr} {c1 c2 co : Nat} {fl : Value} {b : CkB} {pm : Int → Option PkN} {pr : Int → Bool} {x k n a p r : Int} {c c' : CkS}
theorem CkAt.lt (h : CkAt F A1 A2 O c1 c2 co fl b pm pr c X) : ∀ j ∈ b.L, j < X.heap.size := by
  intro j hj
  simp only [CkB.L, List.mem_cons, List.not_mem_nil, or_false] at hj
  rcases hj with rfl | rfl | rfl | rfl | rfl | rfl | rfl | rfl | rfl | rfl | rfl | rfl | rfl
  · exact h.own.lt
  · exact h.m.pk.lt
  · exact h.m.pr.lt
  · exact h.m.dn.lt
  · exact Bl.lt h.m.st
  · exact Bl.lt h.m.en
  · exact Bl.lt h.m.ch
  · exact Bl.lt h.m.up
  · exact h.m.sn.lt
  · exact h.m.sa.lt
  · exact h.m.ar.lt
  · exact h.m.fw.lt
  · exact h.m.cr.lt
theorem SeeW.up (h : SeeW w F A1 A2 O c1 c2 co fl b pm pr x k n a p r c X) (hb : Below X.heap.size X Y) : SeeW w F A1 A2 O c1 c2 co fl b pm pr x k n a p r c Y :=
  ⟨h.c.up hb, h.e.up hb, h.t.up hb, h.kp.next hb⟩
/-- Into one block of the checker something has been written. -/
theorem SeeW.wrote (h : SeeW w F A1 A2 O c1 c2 co fl b pm pr x k n a p r c X) (hlt : ∀ j ∈ b.L, j < w.heap.size) {q : Nat} (hq : q ∈ b.L) (hK : Kp [q] X Y) (hc : CkAt F A1 A2 O c1 c2 co fl b pm pr c' Y) : SeeW w F A1 A2 O c1 c2 co fl b pm pr x k n a p r c' Y := by
  have := hlt q hq
  exact ⟨hc, h.e.kp hK (by simp; omega), h.t.kp hK (by simp; omega), h.kp.trans (hK.mono fun j hj => by rw [List.mem_singleton.1 hj]; exact hq)⟩
/-- Into a block of its own something has been written. -/
theorem SeeW.far (h : SeeW w F A1 A2 O c1 c2 co fl b pm pr x k n a p r c X) (hlt : ∀ j ∈ b.L, j < w.heap.size) {q : Nat} (hq : w.heap.size + 2 ≤ q) (hK : Kp [q] X Y) : SeeW w F A1 A2 O c1 c2 co fl b pm pr x k n a p r c Y :=
  ⟨h.c.kp hK (fun j hj => by have := hlt j hj; simp; omega), h.e.kp hK (by simp; omega), h.t.kp hK (by simp; omega), h.kp.trans' hK fun j hj => by rw [List.mem_singleton.1 hj]; right; omega⟩
theorem kp_of {q : Nat} (hg : X.grownBy Y (some q)) : Kp [q] X Y := Kp.map (Kp.refl _ _) hg (by simp)
theorem kp_blk {q : Nat} (hK : Kp [q] X Y) : ∀ k, k ≠ q → k < X.heap.size → Y.heap[k]? = X.heap[k]? := fun k hk hl => hK.blk k hl (by simpa using hk)
theorem kp_cell {q j : Nat} {v : Value} : Kp [q] X (X.setCell ⟨q, j, none⟩ v) := Kp.set (Kp.refl _ _) (by simp) v
end
end Go.Proofs.Ytdnjflpmbnjgeaa
