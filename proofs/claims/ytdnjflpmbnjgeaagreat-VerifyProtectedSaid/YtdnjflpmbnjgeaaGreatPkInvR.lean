/-
  A drawn region by an invariant over the set of the operations that are done: one goal for each operation, in whatever order they come.
  A drawn region of operations that read, and of operations that make new blocks, in whatever order, followed by operations in one order.
-/
import Derived.StillTail
import Derived.Tactics
import Derived.Test.YtdnjflpmbnjgeaaGreatPkKp
set_option linter.unusedVariables false
namespace Go.Proofs.YtdnjflpmbnjgeaaGreat
section
section
variable {P : Program} {ops : Array Oper} {Q : Exit → Act → World → Prop} {md : Region.Mode}
theorem ready_mem {L : Array Bool} {i : Nat} : i ∈ Region.ready md ops L ↔ i < ops.size ∧ L.getD i true = false ∧ ∃ o, ops[i]? = some o ∧ (o.after.all fun e => !Region.binds md e || L.getD e.on false) = true := by
 unfold Region.ready
 rw [List.mem_filter, List.mem_range, Bool.and_eq_true, Bool.not_eq_true']
 constructor
 ·rintro ⟨h1, h2, h3⟩
  refine ⟨h1, h2, ?_⟩
  cases ho : ops[i]? with
  | none => rw [ho] at h3; cases h3
  | some o => rw [ho] at h3; exact ⟨o, rfl, h3⟩
 ·rintro ⟨h1, h2, o, ho, h3⟩
  exact ⟨h1, h2, by rw [ho]; exact h3⟩
/-- How many operations are not done yet. -/
def undone (L : Array Bool) : Nat := L.toList.count false
theorem undone_set {L : Array Bool} {i : Nat} (h : L.getD i true = false) : undone (L.setIfInBounds i true) + 1 = undone L := by
 have hi : i < L.size := by
  rcases Nat.lt_or_ge i L.size with h' | h'
  ·exact h'
  ·rw [Array.getD_eq_getD_getElem?, Array.getElem?_eq_none h'] at h; cases h
 have hv : L.toList[i]? = some false := by
  rw [Array.getD_eq_getD_getElem?, Array.getElem?_eq_getElem hi] at h
  rw [Array.getElem?_toList, Array.getElem?_eq_getElem hi]
  simpa using h
 unfold undone
 rw [Array.toList_setIfInBounds]
 generalize L.toList = l at hv
 clear h hi
 induction l generalizing i with
 | nil => simp at hv
 | cons x l ih =>
  cases i with
  | zero =>
   have : x = false := by simpa using hv
   subst this
   simp
  | succ i =>
   have := ih (i := i) (by simpa using hv)
   simp only [List.set_cons_succ, List.count_cons]
   omega
/-- The order of the operations is well founded: each comes after some before it in the text. -/
def fwdB (md : Region.Mode) (ops : Array Oper) : Bool := (List.range ops.size).all fun i => ((ops[i]?).map (·.after.all fun e => !Region.binds md e || decide (e.on < i))).getD false
theorem ready_nil (hf : fwdB md ops = true) {L : Array Bool} (hL : L.size = ops.size) (h : Region.ready md ops L = []) : ∀ i, i < ops.size → L.getD i false = true := by
 intro i
 induction i using Nat.strongRecOn with
 | _ i ih =>
  intro hi
  have h1 := List.all_eq_true.1 hf i (List.mem_range.2 hi)
  rw [Array.getElem?_eq_getElem hi] at h1
  simp only [Option.map_some, Option.getD_some] at h1
  cases hb : L.getD i true with
  | true =>
   rw [Array.getD_eq_getD_getElem?, Array.getElem?_eq_getElem (by omega)] at hb ⊢
   simpa using hb
  | false =>
   exfalso
   have hm : i ∈ Region.ready md ops L := ready_mem.2 ⟨hi, hb, ops[i], Array.getElem?_eq_getElem hi, by
    rw [Array.all_eq_true] at h1 ⊢
    intro k hk
    have h2 := h1 k hk
    simp only [Bool.or_eq_true, Bool.not_eq_true', decide_eq_true_eq] at h2 ⊢
    rcases h2 with h2 | h2
    ·exact .inl h2
    ·exact .inr (ih _ h2 (by omega))⟩
   rw [h] at hm
   cases hm
theorem undone_start (n : Nat) : undone (Array.replicate n false) = n := by simp [undone]
/-- The operations can come in the order 'ord'. -/
def ordGo (md : Region.Mode) (ops : Array Oper) : List Nat → List Nat → Bool
 | _, [] => true
 | done, i :: r => ((ops[i]?).map (·.after.all fun e => !Region.binds md e || done.contains e.on)).getD false && ordGo md ops (i :: done) r
def ordB (md : Region.Mode) (ops : Array Oper) (ord : List Nat) : Bool := (List.range ops.size).all (fun i => ord.contains i) && ordGo md ops [] ord
theorem ord_all {L : Array Bool} (hL : L.size = ops.size) (h : Region.ready md ops L = []) : ∀ (r done : List Nat), (∀ i ∈ done, L.getD i false = true) → ordGo md ops done r = true → ∀ i ∈ r, L.getD i false = true
 | [], _, _, _, i, hi => by cases hi
 | j :: r, done, hd, ho, i, hi => by
  simp only [ordGo, Bool.and_eq_true] at ho
  have hj : L.getD j false = true := by
   cases hoj : ops[j]? with
   | none => rw [hoj] at ho; cases ho.1
   | some o =>
    have h1 := ho.1
    rw [hoj] at h1
    simp only [Option.map_some, Option.getD_some] at h1
    have hjs : j < ops.size := (Array.getElem?_eq_some_iff.1 hoj).1
    cases hb : L.getD j true with
    | true =>
     rw [Array.getD_eq_getD_getElem?, Array.getElem?_eq_getElem (by omega)] at hb ⊢
     simpa using hb
    | false =>
     exfalso
     have hm : j ∈ Region.ready md ops L := ready_mem.2 ⟨hjs, hb, o, hoj, by
      rw [Array.all_eq_true] at h1 ⊢
      intro k hk
      have h2 := h1 k hk
      simp only [Bool.or_eq_true, Bool.not_eq_true', List.contains_eq_mem, decide_eq_true_eq] at h2 ⊢
      exact h2.imp id fun h2 => hd _ h2⟩
     rw [h] at hm
     cases hm
  rcases List.mem_cons.1 hi with rfl | hi
  ·exact hj
  ·exact ord_all hL h r (j :: done) (fun k hk => by
    rcases List.mem_cons.1 hk with rfl | hk
    ·exact hj
    ·exact hd k hk) ho.2 i hi
theorem wpAny_invO (I : Array Bool → Act → World → Prop) (ord : List Nat) (hf : ordB md ops ord = true)
    (hs : ∀ L a w i, I L a w → L.size = ops.size → i ∈ Region.ready md ops L → wpOp P ops Q i (fun a' w' => I (L.setIfInBounds i true) a' w') a w)
    (hQ : ∀ L a w, I L a w → L.size = ops.size → (∀ i, i < ops.size → L.getD i false = true) → Q .normal a w) :
    ∀ (fuel : Nat) (L : Array Bool) (a : Act) (w : World), I L a w → L.size = ops.size → undone L ≤ fuel → wpAny P md ops Q fuel L a w := by
 simp only [ordB, Bool.and_eq_true] at hf
 have nil : ∀ L : Array Bool, L.size = ops.size → Region.ready md ops L = [] → ∀ i, i < ops.size → L.getD i false = true := fun L hL hr i hi =>
  ord_all hL hr ord [] (by simp) hf.2 i (by have := List.all_eq_true.1 hf.1 i (List.mem_range.2 hi); simpa using this)
 intro fuel
 induction fuel with
 | zero =>
  intro L a w hI hL hu
  have hr : Region.ready md ops L = [] := by
   rw [List.eq_nil_iff_forall_not_mem]
   intro i hi
   have := undone_set (ready_mem.1 hi).2.1
   omega
  exact ⟨hr, hQ L a w hI hL (nil L hL hr)⟩
 | succ fuel ih =>
  intro L a w hI hL hu
  refine ⟨fun hr => hQ L a w hI hL (nil L hL hr), fun i hi => ?_⟩
  have := undone_set (ready_mem.1 hi).2.1
  exact wpOp_mono (fun a' w' h => ih _ a' w' h (by simpa using hL) (by omega)) (hs L a w i hI hL hi)
theorem wp_region_invO (I : Array Bool → Act → World → Prop) (ord : List Nat) {id : Nat} {a : Act} {w : World} (hm : P.follows .mixedOrders = true) (hf : ordB .any ops ord = true)
    (h0 : I (Array.replicate ops.size false) a { w with drawn := w.drawn + 1 })
    (hs : ∀ L a w i, I L a w → L.size = ops.size → i ∈ Region.ready .any ops L → wpOp P ops Q i (fun a' w' => I (L.setIfInBounds i true) a' w') a w)
    (hQ : ∀ L a w, I L a w → L.size = ops.size → (∀ i, i < ops.size → L.getD i false = true) → Q .normal a w) : (Code.region id ops true).wp P Q a w :=
 wp_region_any hm (wpAny_invO I ord hf hs hQ ops.size _ a _ h0 (by simp) (Nat.le_of_eq (undone_start _)))
/-- The same where the last operations come in one order, behind all others. -/
def doneArr (n m : Nat) : Array Bool := (List.replicate n true ++ List.replicate m false).toArray
def tailOk (ops : Array Oper) (n : Nat) : Bool :=
 decide (n < ops.size) && Region.sinkB .any ops n && Region.chainB .any ops n && fwdB .any ops && Region.seqB .any ops (ops.size - n) n (doneArr n (ops.size - n))
theorem doneArr_of {L : Array Bool} {n : Nat} (hn : n ≤ ops.size) (inv : HeadInv md ops n L) (h : ∀ i, i < n → L.getD i false = true) : L = doneArr n (ops.size - n) := by
 refine Array.ext (by simp [doneArr, inv.size]; omega) fun i h1 h2 => ?_
 rw [inv.size] at h1
 simp only [doneArr, List.getElem_toArray, List.getElem_append, List.length_replicate, List.getElem_replicate, dite_eq_ite]
 by_cases hi : i < n
 ·have := h i hi
  rw [Array.getD_eq_getD_getElem?, Array.getElem?_eq_getElem (by rw [inv.size]; omega)] at this
  simpa [hi] using this
 ·have := inv.tail i (by omega) h1
  rw [Array.getD_eq_getD_getElem?, Array.getElem?_eq_getElem (by rw [inv.size]; omega)] at this
  simpa [hi] using this
theorem undone_done (n m : Nat) : undone (doneArr n m) = m := by simp [undone, doneArr, List.count_replicate]
theorem wpAny_inv_tail {l : List Oper} {n : Nat} (I : Array Bool → Act → World → Prop) (hB : tailOk l.toArray n = true)
    (hs : ∀ L a w i, HeadInv .any l.toArray n L → I L a w → i < n → i ∈ Region.ready .any l.toArray L → wpOp P l.toArray Q i (fun a' w' => I (L.setIfInBounds i true) a' w') a w)
    (hQ : ∀ L a w, I L a w → L = doneArr n (l.toArray.size - n) → wpList P l.toArray Q (l.drop n) a w) :
    ∀ (fuel : Nat) (L : Array Bool) (a : Act) (w : World), HeadInv .any l.toArray n L → I L a w → undone L = fuel → wpAny P .any l.toArray Q fuel L a w := by
 simp only [tailOk, Bool.and_eq_true, decide_eq_true_eq] at hB
 obtain ⟨⟨⟨⟨hn, hsk⟩, hc⟩, hf⟩, hq⟩ := hB
 intro fuel
 induction fuel with
 | zero =>
  intro L a w inv hI hu
  exfalso
  have h1 := inv.tail n (Nat.le_refl _) hn
  have := undone_set h1
  omega
 | succ fuel ih =>
  intro L a w inv hI hu
  by_cases hall : ∀ i, i < n → L.getD i false = true
  ·have hL := doneArr_of (Nat.le_of_lt hn) inv hall
   have hlen : (l.drop n).length = l.toArray.size - n := by simp
   have hfu : fuel + 1 = (l.drop n).length := by rw [hlen, ← hu, hL, undone_done]
   rw [hfu]
   exact wpAny_of_seq (l.drop n) n L a w (fun j => by simp [List.getElem?_drop]) (by rw [hlen, hL]; exact hq) (hQ L a w hI hL)
  ·obtain ⟨i, hi, hl⟩ : ∃ i, i < n ∧ L.getD i true = false := by
    false_or_by_contra
    rename_i hno
    refine hall fun i hi => ?_
    cases h : L.getD i true with
    | false => exact absurd ⟨i, hi, h⟩ hno
    | true =>
     rw [Array.getD_eq_getD_getElem?, Array.getElem?_eq_getElem (by rw [inv.size]; omega)] at h ⊢
     simpa using h
   have htw := tail_waits hsk hc hn inv _ i rfl hi hl
   refine ⟨fun hr => ?_, fun j hj => ?_⟩
   ·have := ready_nil hf inv.size hr i (by omega)
    rw [getD_both hl] at this
    cases this
   ·have hjn : j < n := by
     rcases Nat.lt_or_ge j n with h | h
     ·exact h
     ·exact absurd hj (htw j h)
    have h2 := (ready_mem.1 hj).2.1
    have := undone_set h2
    exact wpOp_mono (fun a' w' h => ih _ a' w' (inv.set hj hjn) h (by omega)) (hs L a w j inv hI hjn hj)
theorem wp_region_inv_tail {l : List Oper} (n : Nat) (I : Array Bool → Act → World → Prop) {id : Nat} {a : Act} {w : World} (hm : P.follows .mixedOrders = true) (hB : tailOk l.toArray n = true)
    (h0 : I (Array.replicate l.toArray.size false) a { w with drawn := w.drawn + 1 })
    (hs : ∀ L a w i, HeadInv .any l.toArray n L → I L a w → i < n → i ∈ Region.ready .any l.toArray L → wpOp P l.toArray Q i (fun a' w' => I (L.setIfInBounds i true) a' w') a w)
    (hQ : ∀ L a w, I L a w → L = doneArr n (l.toArray.size - n) → wpList P l.toArray Q (l.drop n) a w) : (Code.region id l.toArray true).wp P Q a w := by
 refine wp_region_any hm ?_
 exact wpAny_inv_tail I hB hs hQ l.toArray.size _ a _ ⟨by simp, fun j oj _ hl => (by rw [getD_replicate_false] at hl; cases hl), fun t _ ht => getD_in (by simpa using ht) (getD_replicate_false _ _)⟩ h0 (undone_start _)
end
end
section
open Go.RowKit Go.Sort Go.MapKept
section
variable {P : Program} {Q : Exit → Act → World → Prop}
/-- What holds while such a region runs: x says which block an operation has made. -/
structure MkSt (n : Nat) (d : Nat → Nat) (mk : Nat → Option Obj) (V : Nat → Nat → Value) (w0 : World) (a0 : Act) (L : Array Bool) (a : Act) (w : World) (x : Nat → Nat) : Prop where
 below : Below w0.heap.size w0 w
 defers : a.defers = a0.defers
 size : a.tmps.size = a0.tmps.size
 old : ∀ j, (∀ i, i < n → d i ≠ j) → a.tmps.getD j undef = a0.tmps.getD j undef
 val : ∀ i, i < n → L.getD i false = true → a.tmps.getD (d i) undef = V i (x i)
 blk : ∀ i o, i < n → mk i = some o → L.getD i false = true → w0.heap.size ≤ x i ∧ w.heap[x i]? = some o
 inj : ∀ i j, i < n → j < n → mk i ≠ none → mk j ≠ none → L.getD i false = true → L.getD j false = true → x i = x j → i = j
/-- What an operation of such a region does. -/
def OpDoes (P : Program) (ops : Array Oper) (Q : Exit → Act → World → Prop) (i : Nat) (a : Act) (w : World) (d : Nat) (o : Option Obj) (v : Nat → Value) : Prop :=
 ∀ K : Act → World → Prop, (match o with | none => ∀ w', Below w.heap.size w w' → K (a.put (some d) (v 0)) w' | some o => K (a.put (some d) (v w.heap.size)) (w.alloc o)) → wpOp P ops Q i K a w
theorem getD_setV {T : Array Value} {d j : Nat} {v : Value} (hd : d < T.size) : (T.setIfInBounds d v).getD j undef = if d = j then v else T.getD j undef := by
 rw [Array.getD_eq_getD_getElem?, Array.getElem?_setIfInBounds, Array.getD_eq_getD_getElem?]
 by_cases e : d = j
 ·subst e; simp [hd]
 ·simp [e]
theorem getD_setL {L : Array Bool} {i j : Nat} (hi : i < L.size) : (L.setIfInBounds i true).getD j false = if i = j then true else L.getD j false := by
 rw [Array.getD_eq_getD_getElem?, Array.getElem?_setIfInBounds, Array.getD_eq_getD_getElem?]
 by_cases e : i = j
 ·subst e; simp [hi]
 ·simp [e]
theorem MkSt.put {n : Nat} {d : Nat → Nat} {mk : Nat → Option Obj} {V : Nat → Nat → Value} {w0 : World} {a0 : Act} {L : Array Bool} {a : Act} {w w' : World} {x : Nat → Nat} (h : MkSt n d mk V w0 a0 L a w x)
    (hd : ∀ i j, i < n → j < n → d i = d j → i = j) (hds : ∀ i, i < n → d i < a0.tmps.size) {i : Nat} (hi : i < n) (hiL : i < L.size) (hl : L.getD i false = false) (b : Nat)
    (hb : Below w.heap.size w w') (hm : mk i = none ∨ ∃ o, mk i = some o ∧ b = w.heap.size ∧ w'.heap[b]? = some o) :
    MkSt n d mk V w0 a0 (L.setIfInBounds i true) (a.put (some (d i)) (V i b)) w' (fun j => if j = i then b else x j) := by
 have hsz : d i < a.tmps.size := by rw [h.size]; exact hds i hi
 refine ⟨bQ h.below hb, h.defers, by simp [Act.put, h.size], fun j hj => ?_, fun j hj hlj => ?_, fun j o hj ho hlj => ?_, fun j k hj hk hmj hmk hlj hlk e => ?_⟩
 ·show (a.tmps.setIfInBounds (d i) _).getD j undef = _
  rw [getD_setV hsz, if_neg (hj i hi)]
  exact h.old j hj
 ·show (a.tmps.setIfInBounds (d i) _).getD (d j) undef = _
  rw [getD_setL hiL] at hlj
  rw [getD_setV hsz]
  by_cases e : i = j
  ·subst e; simp
  ·rw [if_neg (fun e2 => e (hd i j hi hj e2)), if_neg (fun e2 => e e2.symm)]
   rw [if_neg e] at hlj
   exact h.val j hj hlj
 ·rw [getD_setL hiL] at hlj
  by_cases e : j = i
  ·subst e
   simp only [if_true]
   rcases hm with hm | ⟨o', hm, e1, e2⟩
   ·rw [hm] at ho; cases ho
   ·rw [hm] at ho; injection ho with ho; subst ho
    exact ⟨by rw [e1]; exact h.below.size, e2⟩
  ·rw [if_neg e]
   rw [if_neg (fun e2 => e e2.symm)] at hlj
   obtain ⟨h1, h2⟩ := h.blk j o hj ho hlj
   exact ⟨h1, (hb.block _ (lt_blk h2)).trans h2⟩
 ·rw [getD_setL hiL] at hlj hlk
  have lt : ∀ q, q < n → mk q ≠ none → q ≠ i → L.getD q false = true → x q < w.heap.size := fun q hq hmq _ hlq => by
   cases ho : mk q with
   | none => exact absurd ho hmq
   | some o => exact lt_blk (h.blk q o hq ho hlq).2
  have hbi : mk i ≠ none → b = w.heap.size := fun hn => by
   rcases hm with hm | ⟨_, _, e1, _⟩
   ·exact absurd hm hn
   ·exact e1
  by_cases e1 : j = i
  ·by_cases e2 : k = i
   ·rw [e1, e2]
   ·rw [if_neg (fun e => e2 e.symm)] at hlk
    simp only [e1, if_true, if_neg e2] at e
    have := lt k hk hmk e2 hlk
    have := hbi (by rw [← e1]; exact hmj)
    omega
  ·rw [if_neg (fun e => e1 e.symm)] at hlj
   by_cases e2 : k = i
   ·simp only [e2, if_true, if_neg e1] at e
    have := lt j hj hmj e1 hlj
    have := hbi (by rw [← e2]; exact hmk)
    omega
   ·rw [if_neg (fun e => e2 e.symm)] at hlk
    simp only [if_neg e1, if_neg e2] at e
    exact h.inj j k hj hk hmj hmk hlj hlk e
theorem wp_region_mk {l : List Oper} (n : Nat) (d : Nat → Nat) (mk : Nat → Option Obj) (V : Nat → Nat → Value) {id : Nat} {a : Act} {w : World} (hm : P.follows .mixedOrders = true) (hB : tailOk l.toArray n = true)
    (hd : ∀ i j, i < n → j < n → d i = d j → i = j) (hds : ∀ i, i < n → d i < a.tmps.size)
    (hs : ∀ L b W x i, i < n → MkSt n d mk V w.drew a L b W x → i ∈ Region.ready .any l.toArray L → OpDoes P l.toArray Q i b W (d i) (mk i) (V i))
    (hQ : ∀ b W x, MkSt n d mk V w.drew a (doneArr n (l.toArray.size - n)) b W x → wpList P l.toArray Q (l.drop n) b W) : (Code.region id l.toArray true).wp P Q a w := by
 refine wp_region_inv_tail n (fun L b W => ∃ x, MkSt n d mk V w.drew a L b W x) hm hB ?_ ?_ ?_
 ·refine ⟨fun _ => 0, ⟨Below.refl _ _, rfl, rfl, fun _ _ => rfl, fun i _ h => ?_, fun i o _ _ h => ?_, fun i j _ _ _ _ h => ?_⟩⟩
  all_goals (rw [getD_replicate_false] at h; cases h)
 ·rintro L b W i inv ⟨x, hx⟩ hi hr
  have hl := (ready_mem.1 hr).2.1
  have hiL : i < L.size := by rw [inv.size]; exact (ready_mem.1 hr).1
  refine hs L b W x i hi hx hr _ ?_
  cases ho : mk i with
  | none => exact fun w' hb => ⟨_, hx.put hd hds hi hiL (getD_both hl) 0 hb (.inl ho)⟩
  | some o => exact ⟨_, hx.put hd hds hi hiL (getD_both hl) W.heap.size (cQ W o) (.inr ⟨o, ho, rfl, (MapKept.heap_alloc W o).1⟩)⟩
 ·rintro L b W ⟨x, hx⟩ rfl
  exact hQ b W x hx
theorem dQ {n m i : Nat} (h : i < n) : (doneArr n m).getD i false = true := by
 unfold doneArr
 rw [Array.getD_eq_getD_getElem?, List.getElem?_toArray, List.getElem?_append_left (by simpa using h)]
 simp [h]
/-- A row of slots, written out. -/
theorem slots_eq {T : Array Value} {l : List Value} (hs : T.size = l.length) (h : ∀ j, j < l.length → T.getD j undef = l.getD j undef) : T = l.toArray := by
 refine Array.ext (by simpa using hs) fun j h1 h2 => ?_
 have := h j (by omega)
 rw [Array.getD_eq_getD_getElem?, Array.getElem?_eq_getElem h1, List.getD_eq_getElem?_getD, List.getElem?_eq_getElem (by omega)] at this
 simpa using this
theorem iQ {ops : Array Oper} {i : Nat} {K : Act → World → Prop} {a : Act} {w : World} (o : Oper) (ho : ops[i]? = some o) (hg : o.guard = none) (h : o.wp P a w K Q) : wpOp P ops Q i K a w := by
 unfold wpOp
 rw [ho]
 simp only [Region.wanted, hg, if_true]
 exact .inl h
theorem fQ {ops : Array Oper} {L : Array Bool} {i : Nat} (h : i ∈ Region.ready .any ops L) {o : Oper} (ho : ops[i]? = some o) {e : Edge} (he : e ∈ o.after) (hb : Region.binds .any e = true) : L.getD e.on false = true := by
 obtain ⟨_, _, o', ho', h3⟩ := ready_mem.1 h
 rw [ho] at ho'
 injection ho' with ho'
 subst ho'
 rw [Array.all_eq_true'] at h3
 have := h3 e he
 simpa [hb] using this
/-- The slots behind such a region. -/
def putAll (d : Nat → Nat) (v : Nat → Value) : Nat → Array Value → Array Value
 | 0, T => T
 | k + 1, T => (putAll d v k T).setIfInBounds (d k) (v k)
theorem putAll_size (d : Nat → Nat) (v : Nat → Value) : ∀ (k : Nat) (T : Array Value), (putAll d v k T).size = T.size
 | 0, T => rfl
 | k + 1, T => by simp [putAll, putAll_size d v k T]
theorem putAll_old (d : Nat → Nat) (v : Nat → Value) : ∀ (k : Nat) (T : Array Value) (j : Nat), (∀ i, i < k → d i ≠ j) → (putAll d v k T).getD j undef = T.getD j undef
 | 0, T, j, _ => rfl
 | k + 1, T, j, h => by
  rw [putAll, Array.getD_eq_getD_getElem?, Array.getElem?_setIfInBounds, if_neg (h k (by omega)), ← Array.getD_eq_getD_getElem?]
  exact putAll_old d v k T j fun i hi => h i (by omega)
theorem putAll_val (d : Nat → Nat) (v : Nat → Value) : ∀ (k : Nat) (T : Array Value), (∀ i j, i < k → j < k → d i = d j → i = j) → (∀ i, i < k → d i < T.size) → ∀ i, i < k → (putAll d v k T).getD (d i) undef = v i
 | 0, T, _, _, i, h => by omega
 | k + 1, T, hd, hs, i, h => by
  rw [putAll, getD_setV (by rw [putAll_size]; exact hs k (by omega))]
  by_cases e : k = i
  ·subst e; simp
  ·rw [if_neg (fun e2 => e (hd k i (by omega) h e2))]
   exact putAll_val d v k T (fun i j hi hj => hd i j (by omega) (by omega)) (fun i hi => hs i (by omega)) i (by omega)
theorem tmps_eq {n : Nat} {d : Nat → Nat} {v : Nat → Value} {T0 T : Array Value} (hd : ∀ i j, i < n → j < n → d i = d j → i = j) (hds : ∀ i, i < n → d i < T0.size) (hs : T.size = T0.size)
    (old : ∀ j, (∀ i, i < n → d i ≠ j) → T.getD j undef = T0.getD j undef) (val : ∀ i, i < n → T.getD (d i) undef = v i) : T = putAll d v n T0 := by
 have : (putAll d v n T0).toList.toArray = putAll d v n T0 := by simp
 rw [← this]
 refine slots_eq (by rw [hs, Array.length_toList, putAll_size]) fun j hj => ?_
 have e : (putAll d v n T0).toList.getD j undef = (putAll d v n T0).getD j undef := by
  rw [List.getD_eq_getElem?_getD, Array.getElem?_toList, Array.getD_eq_getD_getElem?]
 rw [e]
 by_cases h : ∃ i, i < n ∧ d i = j
 ·obtain ⟨i, hi, rfl⟩ := h
  rw [val i hi, putAll_val d v n T0 hd hds i hi]
 ·have h' : ∀ i, i < n → d i ≠ j := fun i hi he => h ⟨i, hi, he⟩
  rw [old j h', putAll_old d v n T0 j h']
/-- The same rule; the slots behind it are told. -/
theorem wp_region_mkT {l : List Oper} (n : Nat) (d : Nat → Nat) (mk : Nat → Option Obj) (V : Nat → Nat → Value) {id : Nat} {a : Act} {w : World} (hm : P.follows .mixedOrders = true) (hB : tailOk l.toArray n = true)
    (hd : ∀ i j, i < n → j < n → d i = d j → i = j) (hds : ∀ i, i < n → d i < a.tmps.size)
    (hs : ∀ L b W x i, i < n → MkSt n d mk V w.drew a L b W x → i ∈ Region.ready .any l.toArray L → OpDoes P l.toArray Q i b W (d i) (mk i) (V i))
    (hQ : ∀ (W : World) (x : Nat → Nat), Below w.drew.heap.size w.drew W → (∀ i o, i < n → mk i = some o → w.drew.heap.size ≤ x i ∧ W.heap[x i]? = some o) → (∀ i j, i < n → j < n → mk i ≠ none → mk j ≠ none → x i = x j → i = j) →
     wpList P l.toArray Q (l.drop n) { tmps := putAll d (fun i => V i (x i)) n a.tmps, defers := a.defers } W) : (Code.region id l.toArray true).wp P Q a w := by
 refine wp_region_mk n d mk V hm hB hd hds hs fun b W x h => ?_
 obtain ⟨tm, df⟩ := b
 have h1 : df = a.defers := h.defers
 have h2 : tm = putAll d (fun i => V i (x i)) n a.tmps := tmps_eq hd hds h.size h.old fun i hi => h.val i hi (dQ hi)
 subst h1 h2
 exact hQ W x h.below (fun i o hi ho => h.blk i o hi ho (dQ hi)) fun i j hi hj h1 h2 e => h.inj i j hi hj h1 h2 (dQ hi) (dQ hj) e
/-- What holds while a region runs whose operations only read, but for one of them, k, that leads from the world Wa to the world Wb. -/
structure TwoSt (n : Nat) (d : Nat → Nat) (V : Nat → Value) (k : Nat) (Wa Wb : World) (a0 : Act) (L : Array Bool) (a : Act) (w : World) : Prop where
 world : w = if L.getD k false = true then Wb else Wa
 defers : a.defers = a0.defers
 size : a.tmps.size = a0.tmps.size
 old : ∀ j, (∀ i, i < n → d i ≠ j) → a.tmps.getD j undef = a0.tmps.getD j undef
 val : ∀ i, i < n → L.getD i false = true → a.tmps.getD (d i) undef = V i
theorem wp_region_two {l : List Oper} (n : Nat) (d : Nat → Nat) (V : Nat → Value) (k : Nat) (Wb : World) {id : Nat} {a : Act} {w : World} (hk : k < n) (hm : P.follows .mixedOrders = true) (hB : tailOk l.toArray n = true)
    (hd : ∀ i j, i < n → j < n → d i = d j → i = j) (hds : ∀ i, i < n → d i < a.tmps.size)
    (hs : ∀ L b i W, i < n → i ≠ k → (W = w.drew ∨ W = Wb) → TwoSt n d V k w.drew Wb a L b W → i ∈ Region.ready .any l.toArray L → ∀ K : Act → World → Prop, K (b.put (some (d i)) (V i)) W → wpOp P l.toArray Q i K b W)
    (hs2 : ∀ L b, TwoSt n d V k w.drew Wb a L b w.drew → k ∈ Region.ready .any l.toArray L → ∀ K : Act → World → Prop, K (b.put (some (d k)) (V k)) Wb → wpOp P l.toArray Q k K b w.drew)
    (hQ : wpList P l.toArray Q (l.drop n) { tmps := putAll d V n a.tmps, defers := a.defers } Wb) : (Code.region id l.toArray true).wp P Q a w := by
 have put : ∀ L b W W' i, TwoSt n d V k w.drew Wb a L b W → i < n → i < L.size → W' = (if (L.setIfInBounds i true).getD k false = true then Wb else w.drew) → TwoSt n d V k w.drew Wb a (L.setIfInBounds i true) (b.put (some (d i)) (V i)) W' := by
  intro L b W W' i h hi hiL hW
  have hsz : d i < b.tmps.size := by rw [h.size]; exact hds i hi
  refine ⟨hW, h.defers, by simp [Act.put, h.size], fun j hj => ?_, fun j hj hlj => ?_⟩
  ·show (b.tmps.setIfInBounds (d i) _).getD j undef = _
   rw [getD_setV hsz, if_neg (hj i hi)]
   exact h.old j hj
  ·show (b.tmps.setIfInBounds (d i) _).getD (d j) undef = _
   rw [getD_setL hiL] at hlj
   rw [getD_setV hsz]
   by_cases e : i = j
   ·subst e; simp
   ·rw [if_neg (fun e2 => e (hd i j hi hj e2))]
    rw [if_neg e] at hlj
    exact h.val j hj hlj
 refine wp_region_inv_tail n (fun L b W => TwoSt n d V k w.drew Wb a L b W) hm hB ?_ ?_ ?_
 ·refine ⟨by rw [getD_replicate_false]; rfl, rfl, rfl, fun _ _ => rfl, fun i _ h => ?_⟩
  rw [getD_replicate_false] at h; cases h
 ·intro L b W i inv hx hi hr
  have hl := getD_both (ready_mem.1 hr).2.1
  have hiL : i < L.size := by rw [inv.size]; exact (ready_mem.1 hr).1
  by_cases e : i = k
  ·subst e
   have hW : W = w.drew := by rw [hx.world, if_neg (by rw [hl]; exact Bool.false_ne_true)]
   subst hW
   exact hs2 L b hx hr _ (put L b _ Wb i hx hi hiL (by rw [getD_setL hiL]; simp))
  ·have hW : W = w.drew ∨ W = Wb := by
    have := hx.world
    split at this
    ·exact .inr this
    ·exact .inl this
   exact hs L b i W hi e hW hx hr _ (put L b W W i hx hi hiL (by rw [getD_setL hiL, if_neg e]; exact hx.world))
 ·rintro L b W hx rfl
  obtain ⟨tm, df⟩ := b
  have h1 : df = a.defers := hx.defers
  have h2 : tm = putAll d V n a.tmps := tmps_eq hd hds hx.size hx.old fun i hi => hx.val i hi (dQ hi)
  have h3 : W = Wb := by rw [hx.world, if_pos (dQ hk)]
  subst h1 h2 h3
  exact hQ
/-- A region whose operations all read, or make new blocks; there need be no last one. -/
theorem wp_region_all {l : List Oper} (n : Nat) (ord : List Nat) (d : Nat → Nat) (mk : Nat → Option Obj) (V : Nat → Nat → Value) {id : Nat} {a : Act} {w : World} (hm : P.follows .mixedOrders = true) (hn : l.length = n) (hB : ordB .any l.toArray ord = true)
    (hd : ∀ i j, i < n → j < n → d i = d j → i = j) (hds : ∀ i, i < n → d i < a.tmps.size)
    (hs : ∀ L b W x i, i < n → MkSt n d mk V w.drew a L b W x → i ∈ Region.ready .any l.toArray L → OpDoes P l.toArray Q i b W (d i) (mk i) (V i))
    (hQ : ∀ (W : World) (x : Nat → Nat), Below w.drew.heap.size w.drew W → (∀ i o, i < n → mk i = some o → w.drew.heap.size ≤ x i ∧ W.heap[x i]? = some o) → (∀ i j, i < n → j < n → mk i ≠ none → mk j ≠ none → x i = x j → i = j) →
     Q .normal { tmps := putAll d (fun i => V i (x i)) n a.tmps, defers := a.defers } W) : (Code.region id l.toArray true).wp P Q a w := by
 subst hn
 refine wp_region_invO (fun L b W => ∃ x, MkSt l.length d mk V w.drew a L b W x) ord hm hB ?_ ?_ ?_
 ·refine ⟨fun _ => 0, ⟨Below.refl _ _, rfl, rfl, fun _ _ => rfl, fun i _ h => ?_, fun i o _ _ h => ?_, fun i j _ _ _ _ h => ?_⟩⟩
  all_goals (rw [getD_replicate_false] at h; cases h)
 ·rintro L b W i ⟨x, hx⟩ hL hr
  have hl := (ready_mem.1 hr).2.1
  have hiL : i < L.size := by rw [hL]; exact (ready_mem.1 hr).1
  have hi : i < l.length := by simpa using (ready_mem.1 hr).1
  refine hs L b W x i hi hx hr _ ?_
  cases ho : mk i with
  | none => exact fun w' hb => ⟨_, hx.put hd hds hi hiL (getD_both hl) 0 hb (.inl ho)⟩
  | some o => exact ⟨_, hx.put hd hds hi hiL (getD_both hl) W.heap.size (cQ W o) (.inr ⟨o, ho, rfl, (MapKept.heap_alloc W o).1⟩)⟩
 ·rintro L b W ⟨x, h⟩ hL hall
  obtain ⟨tm, df⟩ := b
  have hl : ∀ i, i < l.length → L.getD i false = true := fun i hi => hall i (by simpa using hi)
  have h1 : df = a.defers := h.defers
  have h2 : tm = putAll d (fun i => V i (x i)) l.length a.tmps := tmps_eq hd hds h.size h.old fun i hi => h.val i hi (hl i hi)
  subst h1 h2
  exact hQ W x h.below (fun i o hi ho => h.blk i o hi ho (hl i hi)) fun i j hi hj h1 h2 e => h.inj i j hi hj h1 h2 (hl i hi) (hl j hj) e
end
theorem rU {ops : Array Oper} {L : Array Bool} {i : Nat} (h : i ∈ Region.ready .any ops L) (j : Nat) {o : Oper} (ho : ops[i]? = some o := by rfl) (he : (⟨j, .data⟩ : Edge) ∈ o.after := by simp) (hb : Region.binds .any ⟨j, .data⟩ = true := by rfl) : L.getD j false = true := fQ h ho he hb
end
end Go.Proofs.YtdnjflpmbnjgeaaGreat
