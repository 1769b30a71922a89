/-
  A drawn region of operations that read, or make memory, in whatever order: of each value a fact is known that lasts.
-/
import Derived.Test.YtenhliibmcmnbaaGreatMkR
namespace Go.Proofs.YtenhliibmcmnbaaGreat
set_option linter.unusedVariables false
open Go.RowKit Go.Sort Go.MapKept

section
variable {P : Program} {Q : Exit → Act → World → Prop}
structure MkG (n : Nat) (d : Nat → Nat) (G : Nat → Value → World → Prop) (w0 : World) (a0 : Act) (L : Array Bool) (a : Act) (w : World) (x : Nat → Value) : Prop where
  below : Below w0.heap.size w0 w
  defers : a.defers = a0.defers
  size : a.tmps.size = a0.tmps.size
  old : ∀ j, (∀ i, i < n → d i ≠ j) → a.tmps.getD j undef = a0.tmps.getD j undef
  val : ∀ i, i < n → L.getD i false = true → a.tmps.getD (d i) undef = x i
  fact : ∀ i, i < n → L.getD i false = true → G i (x i) w
theorem wp_region_mkG {l : List Oper} (n : Nat) (d : Nat → Nat) (G : Nat → Value → World → Prop) {id : Nat} {a : Act} {w : World} (hm : P.follows .mixedOrders = true) (hB : tailOk l.toArray n = true)
    (hd : ∀ i j, i < n → j < n → d i = d j → i = j) (hds : ∀ i, i < n → d i < a.tmps.size) (up : ∀ i v W W', i < n → G i v W → Below W.heap.size W W' → G i v W')
    (hs : ∀ L b W x i, i < n → MkG n d G w.drew a L b W x → i ∈ Region.ready .any l.toArray L → ∀ K : Act → World → Prop, (∀ v W', Below W.heap.size W W' → G i v W' → K (b.put (some (d i)) v) W') → wpOp P l.toArray Q i K b W)
    (hQ : ∀ (W : World) (x : Nat → Value), Below w.drew.heap.size w.drew W → (∀ i, i < n → G i (x i) W) → wpList P l.toArray Q (l.drop n) { tmps := putAll d x n a.tmps, defers := a.defers } W) : (Code.region id l.toArray true).wp P Q a w := by
  refine wp_region_inv_tail n (fun L b W => ∃ x, MkG n d G w.drew a L b W x) hm hB ?_ ?_ ?_
  · refine ⟨fun _ => undef, ⟨Below.refl _ _, rfl, rfl, fun _ _ => rfl, fun i _ h => ?_, fun i _ h => ?_⟩⟩
    all_goals (rw [getD_replicate_false] at h; cases h)
  · rintro L b W i inv ⟨x, hx⟩ hi hr
    have hl := getD_both (ready_mem.1 hr).2.1
    have hiL : i < L.size := by rw [inv.size]; exact (ready_mem.1 hr).1
    have hsz : d i < b.tmps.size := by rw [hx.size]; exact hds i hi
    refine hs L b W x i hi hx hr _ fun v W' hb hg => ⟨fun j => if j = i then v else x j, below_next hx.below hb, hx.defers, by simp [Act.put, hx.size], fun j hj => ?_, fun j hj hlj => ?_, fun j hj hlj => ?_⟩
    · show (b.tmps.setIfInBounds (d i) _).getD j undef = _
      rw [getD_setV hsz, if_neg (hj i hi)]
      exact hx.old j hj
    · show (b.tmps.setIfInBounds (d i) _).getD (d j) undef = _
      rw [getD_setL hiL] at hlj
      rw [getD_setV hsz]
      by_cases e : i = j
      · subst e; simp
      · rw [if_neg (fun e2 => e (hd i j hi hj e2)), if_neg (fun e2 => e e2.symm)]
        rw [if_neg e] at hlj
        exact hx.val j hj hlj
    · rw [getD_setL hiL] at hlj
      show G j (if j = i then v else x j) W'
      by_cases e : j = i
      · subst e; rw [if_pos rfl]; exact hg
      · rw [if_neg e]
        rw [if_neg (fun e2 => e e2.symm)] at hlj
        exact up j _ _ _ hj (hx.fact j hj hlj) hb
  · rintro L b W ⟨x, h⟩ rfl
    obtain ⟨tm, df⟩ := b
    have h1 : df = a.defers := h.defers
    have h2 : tm = putAll d x n a.tmps := tmps_eq hd hds h.size h.old fun i hi => h.val i hi (doneArr_get hi)
    subst h1 h2
    exact hQ W x h.below fun i hi => h.fact i hi (doneArr_get hi)
end
end Go.Proofs.YtenhliibmcmnbaaGreat
