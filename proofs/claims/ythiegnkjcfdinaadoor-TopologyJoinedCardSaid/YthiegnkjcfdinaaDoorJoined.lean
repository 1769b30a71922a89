/-
  Plain: a list of arcs in two parts.
-/
import Derived.Test.YthiegnkjcfdinaaDoorPath
namespace Go.Proofs.YthiegnkjcfdinaaDoor
open Go.RowKit Go.Sort

theorem pathR_err {t : Topo} : ∀ {xs ys : List Int} {f : Bool} {to c : Int}, (pathR t f to c xs).2.2 ≠ 0 → pathR t f to c (xs ++ ys) = pathR t f to c xs
  | [], _, _, _, _, h => by simp [pathR] at h
  | x :: xs, ys, f, to, c, h => by
    simp only [List.cons_append, pathR] at h ⊢
    by_cases h1 : isN (2 * (t.ls.length : Int)) x = true
    · rw [if_pos h1] at h ⊢
      by_cases h2 : (tail t x != to) = true
      · rw [if_pos h2, if_pos h1, if_pos h2]
      · rw [if_neg h2] at h ⊢
        rw [if_pos h1, if_neg h2]
        by_cases h3 : (!f && over t to) = true
        · rw [if_pos h3, if_pos h3]
        · rw [if_neg h3] at h ⊢
          rw [if_neg h3]
          exact pathR_err h
    · rw [if_neg h1, if_neg h1]

theorem pathR_app {t : Topo} : ∀ {xs ys : List Int} {f : Bool} {to c x y : Int}, pathR t f to c xs = (x, y, 0) → pathR t f to c (xs ++ ys) = pathR t (f && xs.isEmpty) x y ys
  | [], _, f, _, _, _, _, h => by
    simp only [pathR, Prod.mk.injEq] at h
    obtain ⟨rfl, rfl, _⟩ := h
    simp
  | a :: xs, ys, f, to, c, x, y, h => by
    simp only [List.cons_append, pathR] at h ⊢
    by_cases h1 : isN (2 * (t.ls.length : Int)) a = true
    · rw [if_pos h1] at h ⊢
      by_cases h2 : (tail t a != to) = true
      · rw [if_pos h2] at h; simp at h
      · rw [if_neg h2] at h ⊢
        by_cases h3 : (!f && over t to) = true
        · rw [if_pos h3] at h; simp at h
        · rw [if_neg h3] at h ⊢
          rw [pathR_app h]
          simp
    · rw [if_neg h1] at h; simp at h

/-- The cost behind a start cost. -/
theorem pathR_cost {t : Topo} : ∀ {xs : List Int} {f : Bool} {to c : Int}, pathR t f to c xs = if (pathR t f to 0 xs).2.2 = 0 then ((pathR t f to 0 xs).1, c + (pathR t f to 0 xs).2.1, 0) else pathR t f to 0 xs
  | [], _, _, _ => by simp [pathR]
  | a :: xs, f, to, c => by
    simp only [pathR]
    by_cases h1 : isN (2 * (t.ls.length : Int)) a = true
    · simp only [h1, if_true]
      by_cases h2 : (tail t a != to) = true
      · simp [h2]
      · simp only [h2]
        by_cases h3 : (!f && over t to) = true
        · simp [h3]
        · simp only [h3, Bool.false_eq_true, if_false]
          rw [pathR_cost (c := c + cost t a), pathR_cost (c := 0 + cost t a)]
          by_cases h4 : (pathR t false (head t a) 0 xs).2.2 = 0
          · simp [h4]; omega
          · simp [h4]
    · simp [h1]

theorem pathR_node {t : Topo} (hv : valid t = true) : ∀ {xs : List Int} {f : Bool} {to c x y : Int}, isN t.n to = true → pathR t f to c xs = (x, y, 0) → isN t.n x = true
  | [], _, _, _, _, _, hN, h => by
    simp only [pathR, Prod.mk.injEq] at h
    rw [← h.1]; exact hN
  | a :: xs, f, to, c, x, y, hN, h => by
    simp only [pathR] at h
    by_cases h1 : isN (2 * (t.ls.length : Int)) a = true
    · rw [if_pos h1] at h
      by_cases h2 : (tail t a != to) = true
      · rw [if_pos h2] at h; simp at h
      · rw [if_neg h2] at h
        by_cases h3 : (!f && over t to) = true
        · rw [if_pos h3] at h; simp at h
        · rw [if_neg h3] at h
          have := arc_bd hv h1
          exact pathR_node hv (isN_true.2 ⟨this.1, this.2.1⟩) h
    · rw [if_neg h1] at h; simp at h

/-- Behind a node that is overloaded, nothing goes on. -/
theorem pathR_flag {t : Topo} {to c : Int} {b : Int} {r : List Int} : pathR t false to c (b :: r) = if over t to = true then (if isN (2 * (t.ls.length : Int)) b = true then (0, 0, 4) else (0, 0, 2)) else pathR t true to c (b :: r) := by
  simp only [pathR]
  cases over t to <;> simp

theorem path_in {t : Topo} (hv : valid t = true) {n : Int} (hn : isN t.n n = true) (xs : List Int) : path t n xs = pathR t true n 0 xs := by simp [path, hv, hn]
theorem path_out {t : Topo} (hv : valid t = true) {n : Int} (hn : isN t.n n = false) (xs : List Int) : path t n xs = (0, 0, 2) := by simp [path, hv, hn]

theorem joined_err {t : Topo} (hv : valid t = true) {n : Int} {xs : List Int} {k : Nat} (h : (path t n (xs.take k)).2.2 ≠ 0) : (path t n xs).2.2 ≠ 0 := by
  cases hN : isN t.n n with
  | false => rw [path_out hv hN]; simp
  | true =>
    rw [path_in hv hN] at h ⊢
    have := pathR_err (ys := xs.drop k) h
    rw [List.take_append_drop] at this
    rw [this]; exact h

theorem joined_ok {t : Topo} (hv : valid t = true) {n : Int} {xs : List Int} {k : Nat} (h : (path t n (xs.take k)).2.2 = 0) :
    (0 < k ∧ k < xs.length ∧ overV t (path t n (xs.take k)).1 = true → (path t n xs).2.2 ≠ 0) ∧
    ((path t (path t n (xs.take k)).1 (xs.drop k)).2.2 ≠ 0 → (path t n xs).2.2 ≠ 0) ∧
    (¬ (0 < k ∧ k < xs.length ∧ overV t (path t n (xs.take k)).1 = true) → (path t (path t n (xs.take k)).1 (xs.drop k)).2.2 = 0 →
      (path t n xs).2.2 = 0 ∧ (path t n xs).1 = (path t (path t n (xs.take k)).1 (xs.drop k)).1 ∧ (path t n xs).2.1 = (path t n (xs.take k)).2.1 + (path t (path t n (xs.take k)).1 (xs.drop k)).2.1) := by
  cases hN : isN t.n n with
  | false => rw [path_out hv hN] at h; simp at h
  | true =>
    rw [path_in hv hN] at h ⊢
    rw [path_in hv hN (xs := xs)]
    obtain ⟨⟨x, y, z⟩, he⟩ : ∃ p, pathR t true n 0 (xs.take k) = p := ⟨_, rfl⟩
    rw [he] at h ⊢
    simp only at h
    subst h
    have hx := pathR_node hv hN he
    have ha := pathR_app (ys := xs.drop k) he
    rw [List.take_append_drop] at ha
    rw [ha]
    simp only [Bool.true_and]
    rw [path_in hv hx]
    have hov : overV t x = over t x := by simp [overV, hv, hx]
    rw [hov]
    cases hd : xs.drop k with
    | nil =>
      have : ¬ k < xs.length := by
        intro hk
        rw [List.drop_eq_nil_iff] at hd
        omega
      simp [pathR, this]
    | cons b r =>
      have hk : k < xs.length := by
        rcases Nat.lt_or_ge k xs.length with h | h
        · exact h
        · rw [List.drop_of_length_le h] at hd; cases hd
      by_cases hk0 : k = 0
      · subst hk0
        simp only [List.take_zero, pathR, Prod.mk.injEq] at he
        obtain ⟨rfl, rfl, _⟩ := he
        simp
      · have hte : (xs.take k).isEmpty = false := by
          cases xs with
          | nil => simp at hk
          | cons a l => cases k with
            | zero => omega
            | succ k => rfl
        rw [hte, pathR_flag]
        have hkp : 0 < k := by omega
        cases hvv : over t x with
        | true =>
          by_cases hb : isN (2 * (t.ls.length : Int)) b = true
          · simp [hb, hkp, hk]
          · simp [hb, hkp, hk]
        | false =>
          simp only [Bool.false_eq_true, if_false, and_false, not_false_eq_true, forall_const, false_implies, true_and]
          rw [pathR_cost (c := y)]
          by_cases hz : (pathR t true x 0 (b :: r)).2.2 = 0
          · simp [hz]
          · simp [hz]

theorem Rd.take {w : World} {A : Option Addr} {xs : List Value} (h : Rd w A xs) (k : Nat) : Rd w A (xs.take k) := by
  rcases h with rfl | ⟨b, o, rfl, hc⟩
  · exact .inl (by simp)
  · refine .inr ⟨b, o, rfl, fun j u hu => hc j u ?_⟩
    rw [List.getElem?_take] at hu
    split at hu
    · exact hu
    · cases hu
theorem Rd.drop {w : World} {b o : Nat} {xs : List Value} (h : Rd w (some ⟨b, o, none⟩) xs) (k : Nat) : Rd w (some ⟨b, o + k, none⟩) (xs.drop k) := by
  rcases h with rfl | ⟨b', o', e, hc⟩
  · exact .inl (by simp)
  · injection e with e
    injection e with e1 e2 _
    subst e1 e2
    refine .inr ⟨b, o + k, rfl, fun j u hu => ?_⟩
    rw [List.getElem?_drop] at hu
    have := hc (k + j) u hu
    rwa [← Nat.add_assoc] at this

theorem path_take (t : Topo) (A1 A2 A3 : Option Addr) (c1 c2 c3 : Nat) (n : Int) (xs : List Int) (k : Nat) (w : World) (hT : TAt w A1 A2 t) (hA : Rd w A3 (xs.map (Value.int .i64))) (hn : t.ls.length ≤ 100000) (hm : xs.length ≤ 300) (hk : k ≤ xs.length) :
    Calls Tryd.prog 10 #[.agg #[.int .i64 t.n, .slice A1 t.ov.length c1, .slice A2 t.ls.length c2], .int .i64 n, .slice A3 k c3] w fun e w' => e = .returned (R3 (path t n (xs.take k))) ∧ Below w.heap.size w w' := by
  have h := topology_Path t A1 A2 A3 c1 c2 c3 n (xs.take k) w hT (by rw [List.map_take]; exact hA.take k) hn (by rw [List.length_take]; omega)
  rwa [List.length_take_of_le hk] at h
theorem path_drop (t : Topo) (A1 A2 A3 : Option Addr) (c1 c2 c3 : Nat) (n : Int) (xs : List Int) (k m : Nat) (w : World) (hT : TAt w A1 A2 t) (hA : Rd w A3 ((xs.drop k).map (Value.int .i64))) (hn : t.ls.length ≤ 100000) (hm : xs.length ≤ 300) (hk : m = xs.length - k) :
    Calls Tryd.prog 10 #[.agg #[.int .i64 t.n, .slice A1 t.ov.length c1, .slice A2 t.ls.length c2], .int .i64 n, .slice A3 m c3] w fun e w' => e = .returned (R3 (path t n (xs.drop k))) ∧ Below w.heap.size w w' := by
  have h := topology_Path t A1 A2 A3 c1 c2 c3 n (xs.drop k) w hT hA hn (by rw [List.length_drop]; omega)
  rwa [List.length_drop, ← hk] at h

theorem Rd.dropA {w : World} {A : Option Addr} {xs : List Value} (h : Rd w A xs) (k : Nat) : Rd w (Option.map (fun x => x.add k) A) (xs.drop k) := by
  rcases h with rfl | ⟨b, o, rfl, hc⟩
  · exact .inl (by simp)
  · have e : Option.map (fun x : Addr => x.add k) (some ⟨b, o, none⟩) = some ⟨b, o + k, none⟩ := by
      by_cases hk : k = 0
      · subst hk; simp [Addr.add]
      · simp [Addr.add, hk]
    rw [e]
    exact Rd.drop (.inr ⟨b, o, rfl, hc⟩) k

theorem Rd.dropM {w : World} {A : Option Addr} {xs : List Int} (h : Rd w A (xs.map (Value.int .i64))) (k : Nat) : Rd w (Option.map (fun x => x.add k) A) ((xs.drop k).map (Value.int .i64)) := by rw [List.map_drop]; exact h.dropA k

theorem pathR_bd {t : Topo} (hv : valid t = true) : ∀ {xs : List Int} {f : Bool} {to c : Int}, 0 ≤ c → 0 ≤ (pathR t f to c xs).2.1 ∧ (pathR t f to c xs).2.1 ≤ c + 65535 * (xs.length : Int)
  | [], _, _, c, h => by simp [pathR]; omega
  | a :: xs, f, to, c, h => by
    simp only [pathR]
    by_cases h1 : isN (2 * (t.ls.length : Int)) a = true
    · rw [if_pos h1]
      by_cases h2 : (tail t a != to) = true
      · rw [if_pos h2]; simp only [List.length_cons]; omega
      · rw [if_neg h2]
        by_cases h3 : (!f && over t to) = true
        · rw [if_pos h3]; simp only [List.length_cons]; omega
        · rw [if_neg h3]
          have hb := arc_bd hv h1
          have := pathR_bd hv (xs := xs) (f := false) (to := head t a) (c := c + cost t a) (by omega)
          simp only [List.length_cons]
          omega
    · rw [if_neg h1]; simp only [List.length_cons]; omega
theorem path_bd {t : Topo} (hv : valid t = true) (n : Int) (xs : List Int) : 0 ≤ (path t n xs).2.1 ∧ (path t n xs).2.1 ≤ 65535 * (xs.length : Int) := by
  cases hN : isN t.n n with
  | false => rw [path_out hv hN]; simp only; omega
  | true =>
    rw [path_in hv hN]
    have := pathR_bd hv (xs := xs) (f := true) (to := n) (c := 0) (by omega)
    omega

end Go.Proofs.YthiegnkjcfdinaaDoor
