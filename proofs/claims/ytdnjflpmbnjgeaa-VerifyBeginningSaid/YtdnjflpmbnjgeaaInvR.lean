/-
  A drawn region by an invariant over the set of the operations that are done: one goal for each operation, in whatever order they come.
-/
import Derived.StillTail
import Derived.Tactics
namespace Go.Proofs.Ytdnjflpmbnjgeaa
section
variable {P : Program} {ops : Array Oper} {Q : Exit → Act → World → Prop} {md : Region.Mode}
theorem ready_mem {L : Array Bool} {i : Nat} : i ∈ Region.ready md ops L ↔ i < ops.size ∧ L.getD i true = false ∧ ∃ o, ops[i]? = some o ∧ (o.after.all fun e => !Region.binds md e || L.getD e.on false) = true := by
  unfold Region.ready
  rw [List.mem_filter, List.mem_range, Bool.and_eq_true, Bool.not_eq_true']
  constructor
  · rintro ⟨h1, h2, h3⟩
    refine ⟨h1, h2, ?_⟩
    cases ho : ops[i]? with
    | none => rw [ho] at h3; cases h3
    | some o => rw [ho] at h3; exact ⟨o, rfl, h3⟩
  · rintro ⟨h1, h2, o, ho, h3⟩
    exact ⟨h1, h2, by rw [ho]; exact h3⟩
/-- How many operations are not done yet. -/
def undone (L : Array Bool) : Nat := L.toList.count false
theorem undone_set {L : Array Bool} {i : Nat} (h : L.getD i true = false) : undone (L.setIfInBounds i true) + 1 = undone L := by
  have hi : i < L.size := by
    rcases Nat.lt_or_ge i L.size with h' | h'
    · exact h'
    · rw [Array.getD_eq_getD_getElem?, Array.getElem?_eq_none h'] at h; cases h
  have hv : L.toList[i]? = some false := by
    rw [Array.getD_eq_getD_getElem?, Array.getElem?_eq_getElem hi] at h
    rw [Array.getElem?_toList, Array.getElem?_eq_getElem hi]
    simpa using h
  unfold undone
  rw [Array.toList_setIfInBounds]
  generalize L.toList = l at hv
  clear h hi
  induction l generalizing i with
  | nil => simp at hv
  | cons x l ih =>
    cases i with
    | zero =>
      have : x = false := by simpa using hv
      subst this
      simp
    | succ i =>
      have := ih (i := i) (by simpa using hv)
      simp only [List.set_cons_succ, List.count_cons]
      omega
/-- The order of the operations is well founded: each comes after some before it in the text. -/
def fwdB (md : Region.Mode) (ops : Array Oper) : Bool := (List.range ops.size).all fun i => ((ops[i]?).map (·.after.all fun e => !Region.binds md e || decide (e.on < i))).getD false
theorem ready_nil (hf : fwdB md ops = true) {L : Array Bool} (hL : L.size = ops.size) (h : Region.ready md ops L = []) : ∀ i, i < ops.size → L.getD i false = true := by
  intro i
  induction i using Nat.strongRecOn with
  | _ i ih =>
    intro hi
    have h1 := List.all_eq_true.1 hf i (List.mem_range.2 hi)
    rw [Array.getElem?_eq_getElem hi] at h1
    simp only [Option.map_some, Option.getD_some] at h1
    cases hb : L.getD i true with
    | true =>
      rw [Array.getD_eq_getD_getElem?, Array.getElem?_eq_getElem (by omega)] at hb ⊢
      simpa using hb
    | false =>
      exfalso
      have hm : i ∈ Region.ready md ops L := ready_mem.2 ⟨hi, hb, ops[i], Array.getElem?_eq_getElem hi, by
        rw [Array.all_eq_true] at h1 ⊢
        intro k hk
        have h2 := h1 k hk
        simp only [Bool.or_eq_true, Bool.not_eq_true', decide_eq_true_eq] at h2 ⊢
        rcases h2 with h2 | h2
        · exact .inl h2
        · exact .inr (ih _ h2 (by omega))⟩
      rw [h] at hm
      cases hm
theorem undone_start (n : Nat) : undone (Array.replicate n false) = n := by simp [undone]
/-- The operations can come in the order 'ord'. -/
def ordGo (md : Region.Mode) (ops : Array Oper) : List Nat → List Nat → Bool
  | _, [] => true
  | done, i :: r => ((ops[i]?).map (·.after.all fun e => !Region.binds md e || done.contains e.on)).getD false && ordGo md ops (i :: done) r
def ordB (md : Region.Mode) (ops : Array Oper) (ord : List Nat) : Bool := (List.range ops.size).all (fun i => ord.contains i) && ordGo md ops [] ord
theorem ord_all {L : Array Bool} (hL : L.size = ops.size) (h : Region.ready md ops L = []) : ∀ (r done : List Nat), (∀ i ∈ done, L.getD i false = true) → ordGo md ops done r = true → ∀ i ∈ r, L.getD i false = true
  | [], _, _, _, i, hi => by cases hi
  | j :: r, done, hd, ho, i, hi => by
    simp only [ordGo, Bool.and_eq_true] at ho
    have hj : L.getD j false = true := by
      cases hoj : ops[j]? with
      | none => rw [hoj] at ho; cases ho.1
      | some o =>
        have h1 := ho.1
        rw [hoj] at h1
        simp only [Option.map_some, Option.getD_some] at h1
        have hjs : j < ops.size := (Array.getElem?_eq_some_iff.1 hoj).1
        cases hb : L.getD j true with
        | true =>
          rw [Array.getD_eq_getD_getElem?, Array.getElem?_eq_getElem (by omega)] at hb ⊢
          simpa using hb
        | false =>
          exfalso
          have hm : j ∈ Region.ready md ops L := ready_mem.2 ⟨hjs, hb, o, hoj, by
            rw [Array.all_eq_true] at h1 ⊢
            intro k hk
            have h2 := h1 k hk
            simp only [Bool.or_eq_true, Bool.not_eq_true', List.contains_eq_mem, decide_eq_true_eq] at h2 ⊢
            exact h2.imp id fun h2 => hd _ h2⟩
          rw [h] at hm
          cases hm
    rcases List.mem_cons.1 hi with rfl | hi
    · exact hj
    · exact ord_all hL h r (j :: done) (fun k hk => by
        rcases List.mem_cons.1 hk with rfl | hk
        · exact hj
        · exact hd k hk) ho.2 i hi
theorem wpAny_invO (I : Array Bool → Act → World → Prop) (ord : List Nat) (hf : ordB md ops ord = true)
    (hs : ∀ L a w i, I L a w → L.size = ops.size → i ∈ Region.ready md ops L → wpOp P ops Q i (fun a' w' => I (L.setIfInBounds i true) a' w') a w)
    (hQ : ∀ L a w, I L a w → L.size = ops.size → (∀ i, i < ops.size → L.getD i false = true) → Q .normal a w) :
    ∀ (fuel : Nat) (L : Array Bool) (a : Act) (w : World), I L a w → L.size = ops.size → undone L ≤ fuel → wpAny P md ops Q fuel L a w := by
  simp only [ordB, Bool.and_eq_true] at hf
  have nil : ∀ L : Array Bool, L.size = ops.size → Region.ready md ops L = [] → ∀ i, i < ops.size → L.getD i false = true := fun L hL hr i hi =>
    ord_all hL hr ord [] (by simp) hf.2 i (by have := List.all_eq_true.1 hf.1 i (List.mem_range.2 hi); simpa using this)
  intro fuel
  induction fuel with
  | zero =>
    intro L a w hI hL hu
    have hr : Region.ready md ops L = [] := by
      rw [List.eq_nil_iff_forall_not_mem]
      intro i hi
      have := undone_set (ready_mem.1 hi).2.1
      omega
    exact ⟨hr, hQ L a w hI hL (nil L hL hr)⟩
  | succ fuel ih =>
    intro L a w hI hL hu
    refine ⟨fun hr => hQ L a w hI hL (nil L hL hr), fun i hi => ?_⟩
    have := undone_set (ready_mem.1 hi).2.1
    exact wpOp_mono (fun a' w' h => ih _ a' w' h (by simpa using hL) (by omega)) (hs L a w i hI hL hi)
theorem wp_region_invO (I : Array Bool → Act → World → Prop) (ord : List Nat) {id : Nat} {a : Act} {w : World} (hm : P.follows .mixedOrders = true) (hf : ordB .any ops ord = true)
    (h0 : I (Array.replicate ops.size false) a { w with drawn := w.drawn + 1 })
    (hs : ∀ L a w i, I L a w → L.size = ops.size → i ∈ Region.ready .any ops L → wpOp P ops Q i (fun a' w' => I (L.setIfInBounds i true) a' w') a w)
    (hQ : ∀ L a w, I L a w → L.size = ops.size → (∀ i, i < ops.size → L.getD i false = true) → Q .normal a w) : (Code.region id ops true).wp P Q a w :=
  wp_region_any hm (wpAny_invO I ord hf hs hQ ops.size _ a _ h0 (by simp) (Nat.le_of_eq (undone_start _)))
/-- The same where the last operations come in one order, behind all others. -/
def doneArr (n m : Nat) : Array Bool := (List.replicate n true ++ List.replicate m false).toArray
def tailOk (ops : Array Oper) (n : Nat) : Bool :=
  decide (n < ops.size) && Region.sinkB .any ops n && Region.chainB .any ops n && fwdB .any ops && Region.seqB .any ops (ops.size - n) n (doneArr n (ops.size - n))
theorem doneArr_of {L : Array Bool} {n : Nat} (hn : n ≤ ops.size) (inv : HeadInv md ops n L) (h : ∀ i, i < n → L.getD i false = true) : L = doneArr n (ops.size - n) := by
  refine Array.ext (by simp [doneArr, inv.size]; omega) fun i h1 h2 => ?_
  rw [inv.size] at h1
  simp only [doneArr, List.getElem_toArray, List.getElem_append, List.length_replicate, List.getElem_replicate, dite_eq_ite]
  by_cases hi : i < n
  · have := h i hi
    rw [Array.getD_eq_getD_getElem?, Array.getElem?_eq_getElem (by rw [inv.size]; omega)] at this
    simpa [hi] using this
  · have := inv.tail i (by omega) h1
    rw [Array.getD_eq_getD_getElem?, Array.getElem?_eq_getElem (by rw [inv.size]; omega)] at this
    simpa [hi] using this
theorem undone_done (n m : Nat) : undone (doneArr n m) = m := by simp [undone, doneArr, List.count_replicate]
theorem wpAny_inv_tail {l : List Oper} {n : Nat} (I : Array Bool → Act → World → Prop) (hB : tailOk l.toArray n = true)
    (hs : ∀ L a w i, HeadInv .any l.toArray n L → I L a w → i < n → i ∈ Region.ready .any l.toArray L → wpOp P l.toArray Q i (fun a' w' => I (L.setIfInBounds i true) a' w') a w)
    (hQ : ∀ L a w, I L a w → L = doneArr n (l.toArray.size - n) → wpList P l.toArray Q (l.drop n) a w) :
    ∀ (fuel : Nat) (L : Array Bool) (a : Act) (w : World), HeadInv .any l.toArray n L → I L a w → undone L = fuel → wpAny P .any l.toArray Q fuel L a w := by
  simp only [tailOk, Bool.and_eq_true, decide_eq_true_eq] at hB
  obtain ⟨⟨⟨⟨hn, hsk⟩, hc⟩, hf⟩, hq⟩ := hB
  intro fuel
  induction fuel with
  | zero =>
    intro L a w inv hI hu
    exfalso
    have h1 := inv.tail n (Nat.le_refl _) hn
    have := undone_set h1
    omega
  | succ fuel ih =>
    intro L a w inv hI hu
    by_cases hall : ∀ i, i < n → L.getD i false = true
    · have hL := doneArr_of (Nat.le_of_lt hn) inv hall
      have hlen : (l.drop n).length = l.toArray.size - n := by simp
      have hfu : fuel + 1 = (l.drop n).length := by rw [hlen, ← hu, hL, undone_done]
      rw [hfu]
      exact wpAny_of_seq (l.drop n) n L a w (fun j => by simp [List.getElem?_drop]) (by rw [hlen, hL]; exact hq) (hQ L a w hI hL)
    · obtain ⟨i, hi, hl⟩ : ∃ i, i < n ∧ L.getD i true = false := by
        false_or_by_contra
        rename_i hno
        refine hall fun i hi => ?_
        cases h : L.getD i true with
        | false => exact absurd ⟨i, hi, h⟩ hno
        | true =>
          rw [Array.getD_eq_getD_getElem?, Array.getElem?_eq_getElem (by rw [inv.size]; omega)] at h ⊢
          simpa using h
      have htw := tail_waits hsk hc hn inv _ i rfl hi hl
      refine ⟨fun hr => ?_, fun j hj => ?_⟩
      · have := ready_nil hf inv.size hr i (by omega)
        rw [getD_both hl] at this
        cases this
      · have hjn : j < n := by
          rcases Nat.lt_or_ge j n with h | h
          · exact h
          · exact absurd hj (htw j h)
        have h2 := (ready_mem.1 hj).2.1
        have := undone_set h2
        exact wpOp_mono (fun a' w' h => ih _ a' w' (inv.set hj hjn) h (by omega)) (hs L a w j inv hI hjn hj)
theorem wp_region_inv_tail {l : List Oper} (n : Nat) (I : Array Bool → Act → World → Prop) {id : Nat} {a : Act} {w : World} (hm : P.follows .mixedOrders = true) (hB : tailOk l.toArray n = true)
    (h0 : I (Array.replicate l.toArray.size false) a { w with drawn := w.drawn + 1 })
    (hs : ∀ L a w i, HeadInv .any l.toArray n L → I L a w → i < n → i ∈ Region.ready .any l.toArray L → wpOp P l.toArray Q i (fun a' w' => I (L.setIfInBounds i true) a' w') a w)
    (hQ : ∀ L a w, I L a w → L = doneArr n (l.toArray.size - n) → wpList P l.toArray Q (l.drop n) a w) : (Code.region id l.toArray true).wp P Q a w := by
  refine wp_region_any hm ?_
  exact wpAny_inv_tail I hB hs hQ l.toArray.size _ a _ ⟨by simp, fun j oj _ hl => (by rw [getD_replicate_false] at hl; cases hl), fun t _ ht => getD_in (by simpa using ht) (getD_replicate_false _ _)⟩ h0 (undone_start _)
end
end Go.Proofs.Ytdnjflpmbnjgeaa
