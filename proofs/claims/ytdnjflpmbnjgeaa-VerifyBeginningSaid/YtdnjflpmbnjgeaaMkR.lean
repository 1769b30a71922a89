/-
  A drawn region of operations that read, and of operations that make new blocks, in whatever order, followed by operations in one order.
-/
import Derived.Test.YtdnjflpmbnjgeaaInvR
import Derived.Test.YtdnjflpmbnjgeaaPkOut
namespace Go.Proofs.Ytdnjflpmbnjgeaa
set_option linter.unusedVariables false
open Go.RowKit Go.Sort Go.MapKept
section
variable {P : Program} {Q : Exit → Act → World → Prop}
/-- What holds while such a region runs: x says which block an operation has made. -/
structure MkSt (n : Nat) (d : Nat → Nat) (mk : Nat → Option Obj) (V : Nat → Nat → Value) (w0 : World) (a0 : Act) (L : Array Bool) (a : Act) (w : World) (x : Nat → Nat) : Prop where
  below : Below w0.heap.size w0 w
  defers : a.defers = a0.defers
  size : a.tmps.size = a0.tmps.size
  old : ∀ j, (∀ i, i < n → d i ≠ j) → a.tmps.getD j undef = a0.tmps.getD j undef
  val : ∀ i, i < n → L.getD i false = true → a.tmps.getD (d i) undef = V i (x i)
  blk : ∀ i o, i < n → mk i = some o → L.getD i false = true → w0.heap.size ≤ x i ∧ w.heap[x i]? = some o
  inj : ∀ i j, i < n → j < n → mk i ≠ none → mk j ≠ none → L.getD i false = true → L.getD j false = true → x i = x j → i = j
/-- What an operation of such a region does. -/
def OpDoes (P : Program) (ops : Array Oper) (Q : Exit → Act → World → Prop) (i : Nat) (a : Act) (w : World) (d : Nat) (o : Option Obj) (v : Nat → Value) : Prop :=
  ∀ K : Act → World → Prop, (match o with | none => ∀ w', Below w.heap.size w w' → K (a.put (some d) (v 0)) w' | some o => K (a.put (some d) (v w.heap.size)) (w.alloc o)) → wpOp P ops Q i K a w
theorem getD_setV {T : Array Value} {d j : Nat} {v : Value} (hd : d < T.size) : (T.setIfInBounds d v).getD j undef = if d = j then v else T.getD j undef := by
  rw [Array.getD_eq_getD_getElem?, Array.getElem?_setIfInBounds, Array.getD_eq_getD_getElem?]
  by_cases e : d = j
  · subst e; simp [hd]
  · simp [e]
theorem getD_setL {L : Array Bool} {i j : Nat} (hi : i < L.size) : (L.setIfInBounds i true).getD j false = if i = j then true else L.getD j false := by
  rw [Array.getD_eq_getD_getElem?, Array.getElem?_setIfInBounds, Array.getD_eq_getD_getElem?]
  by_cases e : i = j
  · subst e; simp [hi]
  · simp [e]
theorem MkSt.put {n : Nat} {d : Nat → Nat} {mk : Nat → Option Obj} {V : Nat → Nat → Value} {w0 : World} {a0 : Act} {L : Array Bool} {a : Act} {w w' : World} {x : Nat → Nat} (h : MkSt n d mk V w0 a0 L a w x)
    (hd : ∀ i j, i < n → j < n → d i = d j → i = j) (hds : ∀ i, i < n → d i < a0.tmps.size) {i : Nat} (hi : i < n) (hiL : i < L.size) (hl : L.getD i false = false) (b : Nat)
    (hb : Below w.heap.size w w') (hm : mk i = none ∨ ∃ o, mk i = some o ∧ b = w.heap.size ∧ w'.heap[b]? = some o) :
    MkSt n d mk V w0 a0 (L.setIfInBounds i true) (a.put (some (d i)) (V i b)) w' (fun j => if j = i then b else x j) := by
  have hsz : d i < a.tmps.size := by rw [h.size]; exact hds i hi
  refine ⟨below_next h.below hb, h.defers, by simp [Act.put, h.size], fun j hj => ?_, fun j hj hlj => ?_, fun j o hj ho hlj => ?_, fun j k hj hk hmj hmk hlj hlk e => ?_⟩
  · show (a.tmps.setIfInBounds (d i) _).getD j undef = _
    rw [getD_setV hsz, if_neg (hj i hi)]
    exact h.old j hj
  · show (a.tmps.setIfInBounds (d i) _).getD (d j) undef = _
    rw [getD_setL hiL] at hlj
    rw [getD_setV hsz]
    by_cases e : i = j
    · subst e; simp
    · rw [if_neg (fun e2 => e (hd i j hi hj e2)), if_neg (fun e2 => e e2.symm)]
      rw [if_neg e] at hlj
      exact h.val j hj hlj
  · rw [getD_setL hiL] at hlj
    by_cases e : j = i
    · subst e
      simp only [if_true]
      rcases hm with hm | ⟨o', hm, e1, e2⟩
      · rw [hm] at ho; cases ho
      · rw [hm] at ho; injection ho with ho; subst ho
        exact ⟨by rw [e1]; exact h.below.size, e2⟩
    · rw [if_neg e]
      rw [if_neg (fun e2 => e e2.symm)] at hlj
      obtain ⟨h1, h2⟩ := h.blk j o hj ho hlj
      exact ⟨h1, (hb.block _ (lt_blk h2)).trans h2⟩
  · rw [getD_setL hiL] at hlj hlk
    have lt : ∀ q, q < n → mk q ≠ none → q ≠ i → L.getD q false = true → x q < w.heap.size := fun q hq hmq _ hlq => by
      cases ho : mk q with
      | none => exact absurd ho hmq
      | some o => exact lt_blk (h.blk q o hq ho hlq).2
    have hbi : mk i ≠ none → b = w.heap.size := fun hn => by
      rcases hm with hm | ⟨_, _, e1, _⟩
      · exact absurd hm hn
      · exact e1
    by_cases e1 : j = i
    · by_cases e2 : k = i
      · rw [e1, e2]
      · rw [if_neg (fun e => e2 e.symm)] at hlk
        simp only [e1, if_true, if_neg e2] at e
        have := lt k hk hmk e2 hlk
        have := hbi (by rw [← e1]; exact hmj)
        omega
    · rw [if_neg (fun e => e1 e.symm)] at hlj
      by_cases e2 : k = i
      · simp only [e2, if_true, if_neg e1] at e
        have := lt j hj hmj e1 hlj
        have := hbi (by rw [← e2]; exact hmk)
        omega
      · rw [if_neg (fun e => e2 e.symm)] at hlk
        simp only [if_neg e1, if_neg e2] at e
        exact h.inj j k hj hk hmj hmk hlj hlk e
theorem wp_region_mk {l : List Oper} (n : Nat) (d : Nat → Nat) (mk : Nat → Option Obj) (V : Nat → Nat → Value) {id : Nat} {a : Act} {w : World} (hm : P.follows .mixedOrders = true) (hB : tailOk l.toArray n = true)
    (hd : ∀ i j, i < n → j < n → d i = d j → i = j) (hds : ∀ i, i < n → d i < a.tmps.size)
    (hs : ∀ L b W x i, i < n → MkSt n d mk V w.drew a L b W x → i ∈ Region.ready .any l.toArray L → OpDoes P l.toArray Q i b W (d i) (mk i) (V i))
    (hQ : ∀ b W x, MkSt n d mk V w.drew a (doneArr n (l.toArray.size - n)) b W x → wpList P l.toArray Q (l.drop n) b W) : (Code.region id l.toArray true).wp P Q a w := by
  refine wp_region_inv_tail n (fun L b W => ∃ x, MkSt n d mk V w.drew a L b W x) hm hB ?_ ?_ ?_
  · refine ⟨fun _ => 0, ⟨Below.refl _ _, rfl, rfl, fun _ _ => rfl, fun i _ h => ?_, fun i o _ _ h => ?_, fun i j _ _ _ _ h => ?_⟩⟩
    all_goals (rw [getD_replicate_false] at h; cases h)
  · rintro L b W i inv ⟨x, hx⟩ hi hr
    have hl := (ready_mem.1 hr).2.1
    have hiL : i < L.size := by rw [inv.size]; exact (ready_mem.1 hr).1
    refine hs L b W x i hi hx hr _ ?_
    cases ho : mk i with
    | none => exact fun w' hb => ⟨_, hx.put hd hds hi hiL (getD_both hl) 0 hb (.inl ho)⟩
    | some o => exact ⟨_, hx.put hd hds hi hiL (getD_both hl) W.heap.size (below_box W o) (.inr ⟨o, ho, rfl, (MapKept.heap_alloc W o).1⟩)⟩
  · rintro L b W ⟨x, hx⟩ rfl
    exact hQ b W x hx
theorem doneArr_get {n m i : Nat} (h : i < n) : (doneArr n m).getD i false = true := by
  unfold doneArr
  rw [Array.getD_eq_getD_getElem?, List.getElem?_toArray, List.getElem?_append_left (by simpa using h)]
  simp [h]
/-- A row of slots, written out. -/
theorem slots_eq {T : Array Value} {l : List Value} (hs : T.size = l.length) (h : ∀ j, j < l.length → T.getD j undef = l.getD j undef) : T = l.toArray := by
  refine Array.ext (by simpa using hs) fun j h1 h2 => ?_
  have := h j (by omega)
  rw [Array.getD_eq_getD_getElem?, Array.getElem?_eq_getElem h1, List.getD_eq_getElem?_getD, List.getElem?_eq_getElem (by omega)] at this
  simpa using this
theorem wpOp_at {ops : Array Oper} {i : Nat} {K : Act → World → Prop} {a : Act} {w : World} (o : Oper) (ho : ops[i]? = some o) (hg : o.guard = none) (h : o.wp P a w K Q) : wpOp P ops Q i K a w := by
  unfold wpOp
  rw [ho]
  simp only [Region.wanted, hg, if_true]
  exact .inl h
theorem ready_dep {ops : Array Oper} {L : Array Bool} {i : Nat} (h : i ∈ Region.ready .any ops L) {o : Oper} (ho : ops[i]? = some o) {e : Edge} (he : e ∈ o.after) (hb : Region.binds .any e = true) : L.getD e.on false = true := by
  obtain ⟨_, _, o', ho', h3⟩ := ready_mem.1 h
  rw [ho] at ho'
  injection ho' with ho'
  subst ho'
  rw [Array.all_eq_true'] at h3
  have := h3 e he
  simpa [hb] using this
/-- The slots behind such a region. -/
def putAll (d : Nat → Nat) (v : Nat → Value) : Nat → Array Value → Array Value
  | 0, T => T
  | k + 1, T => (putAll d v k T).setIfInBounds (d k) (v k)
theorem putAll_size (d : Nat → Nat) (v : Nat → Value) : ∀ (k : Nat) (T : Array Value), (putAll d v k T).size = T.size
  | 0, T => rfl
  | k + 1, T => by simp [putAll, putAll_size d v k T]
theorem putAll_old (d : Nat → Nat) (v : Nat → Value) : ∀ (k : Nat) (T : Array Value) (j : Nat), (∀ i, i < k → d i ≠ j) → (putAll d v k T).getD j undef = T.getD j undef
  | 0, T, j, _ => rfl
  | k + 1, T, j, h => by
    rw [putAll, Array.getD_eq_getD_getElem?, Array.getElem?_setIfInBounds, if_neg (h k (by omega)), ← Array.getD_eq_getD_getElem?]
    exact putAll_old d v k T j fun i hi => h i (by omega)
theorem putAll_val (d : Nat → Nat) (v : Nat → Value) : ∀ (k : Nat) (T : Array Value), (∀ i j, i < k → j < k → d i = d j → i = j) → (∀ i, i < k → d i < T.size) → ∀ i, i < k → (putAll d v k T).getD (d i) undef = v i
  | 0, T, _, _, i, h => by omega
  | k + 1, T, hd, hs, i, h => by
    rw [putAll, getD_setV (by rw [putAll_size]; exact hs k (by omega))]
    by_cases e : k = i
    · subst e; simp
    · rw [if_neg (fun e2 => e (hd k i (by omega) h e2))]
      exact putAll_val d v k T (fun i j hi hj => hd i j (by omega) (by omega)) (fun i hi => hs i (by omega)) i (by omega)
theorem tmps_eq {n : Nat} {d : Nat → Nat} {v : Nat → Value} {T0 T : Array Value} (hd : ∀ i j, i < n → j < n → d i = d j → i = j) (hds : ∀ i, i < n → d i < T0.size) (hs : T.size = T0.size)
    (old : ∀ j, (∀ i, i < n → d i ≠ j) → T.getD j undef = T0.getD j undef) (val : ∀ i, i < n → T.getD (d i) undef = v i) : T = putAll d v n T0 := by
  have : (putAll d v n T0).toList.toArray = putAll d v n T0 := by simp
  rw [← this]
  refine slots_eq (by rw [hs, Array.length_toList, putAll_size]) fun j hj => ?_
  have e : (putAll d v n T0).toList.getD j undef = (putAll d v n T0).getD j undef := by
    rw [List.getD_eq_getElem?_getD, Array.getElem?_toList, Array.getD_eq_getD_getElem?]
  rw [e]
  by_cases h : ∃ i, i < n ∧ d i = j
  · obtain ⟨i, hi, rfl⟩ := h
    rw [val i hi, putAll_val d v n T0 hd hds i hi]
  · have h' : ∀ i, i < n → d i ≠ j := fun i hi he => h ⟨i, hi, he⟩
    rw [old j h', putAll_old d v n T0 j h']
/-- The same rule; the slots behind it are told. -/
theorem wp_region_mkT {l : List Oper} (n : Nat) (d : Nat → Nat) (mk : Nat → Option Obj) (V : Nat → Nat → Value) {id : Nat} {a : Act} {w : World} (hm : P.follows .mixedOrders = true) (hB : tailOk l.toArray n = true)
    (hd : ∀ i j, i < n → j < n → d i = d j → i = j) (hds : ∀ i, i < n → d i < a.tmps.size)
    (hs : ∀ L b W x i, i < n → MkSt n d mk V w.drew a L b W x → i ∈ Region.ready .any l.toArray L → OpDoes P l.toArray Q i b W (d i) (mk i) (V i))
    (hQ : ∀ (W : World) (x : Nat → Nat), Below w.drew.heap.size w.drew W → (∀ i o, i < n → mk i = some o → w.drew.heap.size ≤ x i ∧ W.heap[x i]? = some o) → (∀ i j, i < n → j < n → mk i ≠ none → mk j ≠ none → x i = x j → i = j) →
      wpList P l.toArray Q (l.drop n) { tmps := putAll d (fun i => V i (x i)) n a.tmps, defers := a.defers } W) : (Code.region id l.toArray true).wp P Q a w := by
  refine wp_region_mk n d mk V hm hB hd hds hs fun b W x h => ?_
  obtain ⟨tm, df⟩ := b
  have h1 : df = a.defers := h.defers
  have h2 : tm = putAll d (fun i => V i (x i)) n a.tmps := tmps_eq hd hds h.size h.old fun i hi => h.val i hi (doneArr_get hi)
  subst h1 h2
  exact hQ W x h.below (fun i o hi ho => h.blk i o hi ho (doneArr_get hi)) fun i j hi hj h1 h2 e => h.inj i j hi hj h1 h2 (doneArr_get hi) (doneArr_get hj) e
/-- What holds while a region runs whose operations only read, but for one of them, k, that leads from the world Wa to the world Wb. -/
structure TwoSt (n : Nat) (d : Nat → Nat) (V : Nat → Value) (k : Nat) (Wa Wb : World) (a0 : Act) (L : Array Bool) (a : Act) (w : World) : Prop where
  world : w = if L.getD k false = true then Wb else Wa
  defers : a.defers = a0.defers
  size : a.tmps.size = a0.tmps.size
  old : ∀ j, (∀ i, i < n → d i ≠ j) → a.tmps.getD j undef = a0.tmps.getD j undef
  val : ∀ i, i < n → L.getD i false = true → a.tmps.getD (d i) undef = V i
theorem wp_region_two {l : List Oper} (n : Nat) (d : Nat → Nat) (V : Nat → Value) (k : Nat) (Wb : World) {id : Nat} {a : Act} {w : World} (hk : k < n) (hm : P.follows .mixedOrders = true) (hB : tailOk l.toArray n = true)
    (hd : ∀ i j, i < n → j < n → d i = d j → i = j) (hds : ∀ i, i < n → d i < a.tmps.size)
    (hs : ∀ L b i W, i < n → i ≠ k → (W = w.drew ∨ W = Wb) → TwoSt n d V k w.drew Wb a L b W → i ∈ Region.ready .any l.toArray L → ∀ K : Act → World → Prop, K (b.put (some (d i)) (V i)) W → wpOp P l.toArray Q i K b W)
    (hs2 : ∀ L b, TwoSt n d V k w.drew Wb a L b w.drew → k ∈ Region.ready .any l.toArray L → ∀ K : Act → World → Prop, K (b.put (some (d k)) (V k)) Wb → wpOp P l.toArray Q k K b w.drew)
    (hQ : wpList P l.toArray Q (l.drop n) { tmps := putAll d V n a.tmps, defers := a.defers } Wb) : (Code.region id l.toArray true).wp P Q a w := by
  have put : ∀ L b W W' i, TwoSt n d V k w.drew Wb a L b W → i < n → i < L.size → W' = (if (L.setIfInBounds i true).getD k false = true then Wb else w.drew) → TwoSt n d V k w.drew Wb a (L.setIfInBounds i true) (b.put (some (d i)) (V i)) W' := by
    intro L b W W' i h hi hiL hW
    have hsz : d i < b.tmps.size := by rw [h.size]; exact hds i hi
    refine ⟨hW, h.defers, by simp [Act.put, h.size], fun j hj => ?_, fun j hj hlj => ?_⟩
    · show (b.tmps.setIfInBounds (d i) _).getD j undef = _
      rw [getD_setV hsz, if_neg (hj i hi)]
      exact h.old j hj
    · show (b.tmps.setIfInBounds (d i) _).getD (d j) undef = _
      rw [getD_setL hiL] at hlj
      rw [getD_setV hsz]
      by_cases e : i = j
      · subst e; simp
      · rw [if_neg (fun e2 => e (hd i j hi hj e2))]
        rw [if_neg e] at hlj
        exact h.val j hj hlj
  refine wp_region_inv_tail n (fun L b W => TwoSt n d V k w.drew Wb a L b W) hm hB ?_ ?_ ?_
  · refine ⟨by rw [getD_replicate_false]; rfl, rfl, rfl, fun _ _ => rfl, fun i _ h => ?_⟩
    rw [getD_replicate_false] at h; cases h
  · intro L b W i inv hx hi hr
    have hl := getD_both (ready_mem.1 hr).2.1
    have hiL : i < L.size := by rw [inv.size]; exact (ready_mem.1 hr).1
    by_cases e : i = k
    · subst e
      have hW : W = w.drew := by rw [hx.world, if_neg (by rw [hl]; exact Bool.false_ne_true)]
      subst hW
      exact hs2 L b hx hr _ (put L b _ Wb i hx hi hiL (by rw [getD_setL hiL]; simp))
    · have hW : W = w.drew ∨ W = Wb := by
        have := hx.world
        split at this
        · exact .inr this
        · exact .inl this
      exact hs L b i W hi e hW hx hr _ (put L b W W i hx hi hiL (by rw [getD_setL hiL, if_neg e]; exact hx.world))
  · rintro L b W hx rfl
    obtain ⟨tm, df⟩ := b
    have h1 : df = a.defers := hx.defers
    have h2 : tm = putAll d V n a.tmps := tmps_eq hd hds hx.size hx.old fun i hi => hx.val i hi (doneArr_get hi)
    have h3 : W = Wb := by rw [hx.world, if_pos (doneArr_get hk)]
    subst h1 h2 h3
    exact hQ
/-- A region whose operations all read, or make new blocks; there need be no last one. -/
theorem wp_region_all {l : List Oper} (n : Nat) (ord : List Nat) (d : Nat → Nat) (mk : Nat → Option Obj) (V : Nat → Nat → Value) {id : Nat} {a : Act} {w : World} (hm : P.follows .mixedOrders = true) (hn : l.length = n) (hB : ordB .any l.toArray ord = true)
    (hd : ∀ i j, i < n → j < n → d i = d j → i = j) (hds : ∀ i, i < n → d i < a.tmps.size)
    (hs : ∀ L b W x i, i < n → MkSt n d mk V w.drew a L b W x → i ∈ Region.ready .any l.toArray L → OpDoes P l.toArray Q i b W (d i) (mk i) (V i))
    (hQ : ∀ (W : World) (x : Nat → Nat), Below w.drew.heap.size w.drew W → (∀ i o, i < n → mk i = some o → w.drew.heap.size ≤ x i ∧ W.heap[x i]? = some o) → (∀ i j, i < n → j < n → mk i ≠ none → mk j ≠ none → x i = x j → i = j) →
      Q .normal { tmps := putAll d (fun i => V i (x i)) n a.tmps, defers := a.defers } W) : (Code.region id l.toArray true).wp P Q a w := by
  subst hn
  refine wp_region_invO (fun L b W => ∃ x, MkSt l.length d mk V w.drew a L b W x) ord hm hB ?_ ?_ ?_
  · refine ⟨fun _ => 0, ⟨Below.refl _ _, rfl, rfl, fun _ _ => rfl, fun i _ h => ?_, fun i o _ _ h => ?_, fun i j _ _ _ _ h => ?_⟩⟩
    all_goals (rw [getD_replicate_false] at h; cases h)
  · rintro L b W i ⟨x, hx⟩ hL hr
    have hl := (ready_mem.1 hr).2.1
    have hiL : i < L.size := by rw [hL]; exact (ready_mem.1 hr).1
    have hi : i < l.length := by simpa using (ready_mem.1 hr).1
    refine hs L b W x i hi hx hr _ ?_
    cases ho : mk i with
    | none => exact fun w' hb => ⟨_, hx.put hd hds hi hiL (getD_both hl) 0 hb (.inl ho)⟩
    | some o => exact ⟨_, hx.put hd hds hi hiL (getD_both hl) W.heap.size (below_box W o) (.inr ⟨o, ho, rfl, (MapKept.heap_alloc W o).1⟩)⟩
  · rintro L b W ⟨x, h⟩ hL hall
    obtain ⟨tm, df⟩ := b
    have hl : ∀ i, i < l.length → L.getD i false = true := fun i hi => hall i (by simpa using hi)
    have h1 : df = a.defers := h.defers
    have h2 : tm = putAll d (fun i => V i (x i)) l.length a.tmps := tmps_eq hd hds h.size h.old fun i hi => h.val i hi (hl i hi)
    subst h1 h2
    exact hQ W x h.below (fun i o hi ho => h.blk i o hi ho (hl i hi)) fun i j hi hj h1 h2 e => h.inj i j hi hj h1 h2 (hl i hi) (hl j hj) e
end
end Go.Proofs.Ytdnjflpmbnjgeaa
