/-
  An indexed queue in plain Lean: keys, places, the list of the held items. No order is asked for: only which items are held.
-/
import Derived.Test.YtenhliibmcmnbaaGreatBase
namespace Go.Proofs.YtenhliibmcmnbaaGreat

theorem pigeon : ∀ (N : Nat) (l : List Int), l.Nodup → (∀ x ∈ l, 0 ≤ x ∧ x < (N : Int)) → l.length ≤ N
  | 0, l, _, h => by
    cases l with
    | nil => exact Nat.le_refl _
    | cons x l => have := h x (by simp); omega
  | N + 1, l, hn, h => by
    by_cases hm : (N : Int) ∈ l
    · have h1 := pigeon N (l.erase (N : Int)) (hn.erase _) (fun x hx => by
        have h2 := (hn.mem_erase_iff).1 hx
        have := h x h2.2
        have h3 : x ≠ (N : Int) := h2.1
        omega)
      rw [List.length_erase_of_mem hm] at h1
      omega
    · have h1 := pigeon N l hn (fun x hx => by
        have := h x hx
        have h3 : x ≠ (N : Int) := fun e => hm (e ▸ hx)
        omega)
      omega

/-- keys, places and order belong together. -/
structure HP (N : Nat) (ks ps os : List Int) : Prop where
  kl : ks.length = N
  pl : ps.length = N
  a : ∀ (p : Nat) (i : Int), os[p]? = some i → 0 ≤ i ∧ i < (N : Int) ∧ ps[i.toNat]? = some ((p : Int) + 1)
  b : ∀ j : Nat, j < N → ps[j]? = some 0 ∨ ∃ p : Nat, ps[j]? = some ((p : Int) + 1) ∧ os[p]? = some (j : Int)
theorem HP.nodup {N : Nat} {ks ps os : List Int} (h : HP N ks ps os) : os.Nodup := by
  refine List.nodup_iff_pairwise_ne.2 (List.pairwise_iff_getElem.2 fun i j hi hj hij e => ?_)
  have a1 := (h.a j _ (List.getElem?_eq_getElem hj)).2.2
  have a2 := (h.a i _ (List.getElem?_eq_getElem hi)).2.2
  rw [e, a1] at a2
  injection a2 with a2
  omega
theorem HP.le {N : Nat} {ks ps os : List Int} (h : HP N ks ps os) : os.length ≤ N :=
  pigeon N os h.nodup (fun x hx => by
    obtain ⟨p, hp, rfl⟩ := List.getElem_of_mem hx
    have := h.a p _ (List.getElem?_eq_getElem hp)
    exact ⟨this.1, this.2.1⟩)
theorem HP.start (N : Nat) : HP N (List.replicate N 0) (List.replicate N 0) [] :=
  ⟨by simp, by simp, by simp, fun j hj => .inl (by simp [hj])⟩
/-- An item is held. -/
def held (ps : List Int) (i : Int) : Bool := !(ps.getD i.toNat 0 == 0)
theorem HP.held_iff {N : Nat} {ks ps os : List Int} (h : HP N ks ps os) {i : Int} (h0 : 0 ≤ i) (h1 : i < (N : Int)) : held ps i = true ↔ i ∈ os := by
  have hl : i.toNat < N := by omega
  have hi : ((i.toNat : Nat) : Int) = i := by omega
  unfold held
  rcases h.b i.toNat hl with e | ⟨p, e, hp⟩
  · rw [List.getD_eq_getElem?_getD, e]
    simp only [Option.getD_some, BEq.rfl, Bool.not_true, Bool.false_eq_true, false_iff]
    intro hm
    obtain ⟨p, hp, hpe⟩ := List.getElem_of_mem hm
    have := (h.a p i (by rw [List.getElem?_eq_getElem hp, hpe])).2.2
    rw [e] at this
    injection this with this
    omega
  · rw [List.getD_eq_getElem?_getD, e]
    have : i ∈ os := by rw [← hi]; exact List.mem_of_getElem? hp
    simp only [Option.getD_some, this, iff_true]
    have : ((p : Int) + 1 == 0) = false := by simp; omega
    rw [this]; rfl
/-- Two items change places. -/
def swO (os : List Int) (p q : Nat) : List Int := (os.set p (os.getD q 0)).set q (os.getD p 0)
def swP (ps os : List Int) (p q : Nat) : List Int := (ps.set (os.getD q 0).toNat ((p : Int) + 1)).set (os.getD p 0).toNat ((q : Int) + 1)
theorem swO_len (os : List Int) (p q : Nat) : (swO os p q).length = os.length := by simp [swO]
theorem swO_get {os : List Int} {p q : Nat} (hp : p < os.length) (hq : q < os.length) (j : Nat) : (swO os p q)[j]? = if j = q then some (os.getD p 0) else if j = p then some (os.getD q 0) else os[j]? := by
  unfold swO
  rw [List.getElem?_set]
  by_cases e : q = j
  · subst e; simp [hq]
  · rw [if_neg e, if_neg (fun h => e h.symm), List.getElem?_set]
    by_cases e2 : p = j
    · subst e2; simp [hp]
    · rw [if_neg e2, if_neg (fun h => e2 h.symm)]
theorem getD_some {os : List Int} {p : Nat} (hp : p < os.length) : os[p]? = some (os.getD p 0) := by
  simp [List.getD_eq_getElem?_getD, List.getElem?_eq_getElem hp]
theorem swO_perm {os : List Int} {p q : Nat} (hp : p < os.length) (hq : q < os.length) : (swO os p q).Perm os := by
  have h := List.set_set_perm hp hq
  unfold swO
  rw [List.getD_eq_getElem?_getD, List.getD_eq_getElem?_getD, List.getElem?_eq_getElem hp, List.getElem?_eq_getElem hq]
  exact h
theorem HP.swap {N : Nat} {ks ps os : List Int} (h : HP N ks ps os) {p q : Nat} (hp : p < os.length) (hq : q < os.length) : HP N ks (swP ps os p q) (swO os p q) := by
  have ap := h.a p _ (getD_some hp)
  have aq := h.a q _ (getD_some hq)
  have inj : ∀ (i j : Nat) (x y : Int), os[i]? = some x → os[j]? = some y → x.toNat = y.toNat → i = j := fun i j x y hx hy e => by
    have h1 := h.a i x hx
    have h2 := h.a j y hy
    rw [e, h2.2.2] at h1
    have := h1.2.2
    injection this with this
    omega
  have pg : ∀ j : Nat, (swP ps os p q)[j]? = if j = (os.getD p 0).toNat then (if j < N then some ((q : Int) + 1) else none) else if j = (os.getD q 0).toNat then (if j < N then some ((p : Int) + 1) else none) else ps[j]? := fun j => by
    unfold swP
    rw [List.getElem?_set]
    by_cases e : (os.getD p 0).toNat = j
    · subst e; rw [if_pos rfl, if_pos rfl]; simp [h.pl]
    · rw [if_neg e, if_neg (fun h => e h.symm), List.getElem?_set]
      by_cases e2 : (os.getD q 0).toNat = j
      · subst e2; rw [if_pos rfl, if_pos rfl]; simp [h.pl]
      · rw [if_neg e2, if_neg (fun h => e2 h.symm)]
  refine ⟨h.kl, by simp [swP, h.pl], ?_, ?_⟩
  · intro j i hj
    rw [swO_get hp hq] at hj
    by_cases e : j = q
    · subst e
      rw [if_pos rfl] at hj
      injection hj with hj
      subst hj
      refine ⟨ap.1, ap.2.1, ?_⟩
      rw [pg, if_pos rfl, if_pos (by omega)]
    · rw [if_neg e] at hj
      by_cases e2 : j = p
      · subst e2
        rw [if_pos rfl] at hj
        injection hj with hj
        subst hj
        refine ⟨aq.1, aq.2.1, ?_⟩
        rw [pg, if_neg (fun h' => e (inj _ _ _ _ (getD_some hp) (getD_some hq) h'.symm)), if_pos rfl, if_pos (by omega)]
      · rw [if_neg e2] at hj
        have := h.a j i hj
        refine ⟨this.1, this.2.1, ?_⟩
        rw [pg, if_neg (fun h' => e2 (inj _ _ _ _ hj (getD_some hp) h')), if_neg (fun h' => e (inj _ _ _ _ hj (getD_some hq) h'))]
        exact this.2.2
  · intro j hj
    rw [pg]
    by_cases e : j = (os.getD p 0).toNat
    · rw [if_pos e, if_pos hj]
      refine .inr ⟨q, rfl, ?_⟩
      rw [swO_get hp hq, if_pos rfl, e]
      congr 1
      omega
    · rw [if_neg e]
      by_cases e2 : j = (os.getD q 0).toNat
      · rw [if_pos e2, if_pos hj]
        refine .inr ⟨p, rfl, ?_⟩
        have hpq : p ≠ q := fun h' => e (by rw [e2, h'])
        rw [swO_get hp hq, if_neg hpq, if_pos rfl, e2]
        congr 1
        omega
      · rw [if_neg e2]
        rcases h.b j hj with h' | ⟨r, h1, h2⟩
        · exact .inl h'
        · refine .inr ⟨r, h1, ?_⟩
          rw [swO_get hp hq, if_neg, if_neg]
          · exact h2
          · rintro rfl
            rw [getD_some hp] at h2
            injection h2 with h2
            exact e (by omega)
          · rintro rfl
            rw [getD_some hq] at h2
            injection h2 with h2
            exact e2 (by omega)
/-- An item is put in at the end. -/
theorem HP.push {N : Nat} {ks ps os : List Int} (h : HP N ks ps os) {i key : Int} (h0 : 0 ≤ i) (h1 : i < (N : Int)) (hn : ps[i.toNat]? = some 0) : HP N (ks.set i.toNat key) (ps.set i.toNat (((os.length + 1 : Nat) : Int))) (os ++ [i]) := by
  have hi : ((i.toNat : Nat) : Int) = i := by omega
  have hne : ∀ (p : Nat) (x : Int), os[p]? = some x → x.toNat ≠ i.toNat := fun p x hx e => by
    have := (h.a p x hx).2.2
    rw [e, hn] at this
    injection this with this
    omega
  refine ⟨by simp [h.kl], by simp [h.pl], ?_, ?_⟩
  · intro p x hx
    by_cases hp : p < os.length
    · rw [List.getElem?_append_left hp] at hx
      have := h.a p x hx
      refine ⟨this.1, this.2.1, ?_⟩
      rw [List.getElem?_set_ne (fun e => hne p x hx e.symm)]
      exact this.2.2
    · rw [List.getElem?_append_right (by omega)] at hx
      have hp0 : p - os.length = 0 := by
        rcases Nat.eq_zero_or_pos (p - os.length) with e | e
        · exact e
        · rw [List.getElem?_eq_none (by simp; omega)] at hx; cases hx
      rw [hp0] at hx
      simp only [List.getElem?_cons_zero, Option.some.injEq] at hx
      subst hx
      refine ⟨h0, h1, ?_⟩
      rw [List.getElem?_set_self (by rw [h.pl]; omega)]
      congr 1
      omega
  · intro j hj
    by_cases e : i.toNat = j
    · refine .inr ⟨os.length, ?_, ?_⟩
      · rw [e, List.getElem?_set_self (by rw [h.pl]; omega)]; rfl
      · rw [List.getElem?_append_right (Nat.le_refl _)]; simp; omega
    · rw [List.getElem?_set_ne e]
      rcases h.b j hj with h' | ⟨r, h2, h3⟩
      · exact .inl h'
      · exact .inr ⟨r, h2, by rw [List.getElem?_append_left (List.getElem?_eq_some_iff.1 h3).1]; exact h3⟩
theorem HP.key {N : Nat} {ks ps os : List Int} (h : HP N ks ps os) (i : Nat) (key : Int) : HP N (ks.set i key) ps os := ⟨by simp [h.kl], h.pl, h.a, h.b⟩
/-- The last item is taken out. -/
theorem HP.drop {N : Nat} {ks ps os : List Int} {i : Int} (h : HP N ks ps (os ++ [i])) : HP N (ks.set i.toNat 0) (ps.set i.toNat 0) os := by
  have hl : (os ++ [i])[os.length]? = some i := by rw [List.getElem?_append_right (Nat.le_refl _)]; simp
  have hi := h.a _ _ hl
  refine ⟨by simp [h.kl], by simp [h.pl], ?_, ?_⟩
  · intro p x hx
    have hp : p < os.length := (List.getElem?_eq_some_iff.1 hx).1
    have := h.a p x (by rw [List.getElem?_append_left hp]; exact hx)
    refine ⟨this.1, this.2.1, ?_⟩
    rw [List.getElem?_set_ne]
    · exact this.2.2
    · intro e
      have h2 := this.2.2
      rw [← e, hi.2.2] at h2
      injection h2 with h2
      omega
  · intro j hj
    by_cases e : i.toNat = j
    · refine .inl ?_
      rw [e, List.getElem?_set_self (by rw [h.pl]; omega)]
    · rw [List.getElem?_set_ne e]
      rcases h.b j hj with h' | ⟨r, h2, h3⟩
      · exact .inl h'
      · refine .inr ⟨r, h2, ?_⟩
        by_cases hr : r < os.length
        · rw [List.getElem?_append_left hr] at h3; exact h3
        · exfalso
          have : r = os.length := by
            have := (List.getElem?_eq_some_iff.1 h3).1
            simp at this
            omega
          subst this
          rw [hl] at h3
          injection h3 with h3
          omega

end Go.Proofs.YtenhliibmcmnbaaGreat
