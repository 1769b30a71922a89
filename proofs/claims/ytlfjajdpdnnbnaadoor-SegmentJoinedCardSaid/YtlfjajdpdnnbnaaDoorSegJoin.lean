/-
  The plain law behind SegmentJoined: the ends of a list of two parts; and what the walk needs of slices of segments.
-/
import Derived.Test.YtlfjajdpdnnbnaaDoorEnds
namespace Go.Proofs.YtlfjajdpdnnbnaaDoor
open Go.RowKit Go.Sort

theorem endR_node {t : Topo} {k m f n : Int} (h : endR t k m f = (n, 0)) : isN t.n n = true := by
  unfold endR at h
  by_cases h1 : segV t k m = false
  · rw [if_pos h1] at h; simp at h
  · rw [if_neg h1] at h
    have hv : segV t k m = true := by simpa using h1
    by_cases h2 : isN t.n f = false
    · rw [if_pos h2] at h; simp at h
    · rw [if_neg h2] at h
      by_cases h3 : k = 1
      · rw [if_pos h3] at h
        obtain ⟨rfl, _⟩ := Prod.mk.inj h
        subst h3
        simp only [segV, Bool.and_eq_true, segOk1] at hv
        exact hv.2
      · rw [if_neg h3] at h
        by_cases h4 : k = 2
        · rw [if_pos h4] at h
          subst h4
          by_cases h5 : tail t m = f
          · rw [if_pos h5] at h
            obtain ⟨rfl, _⟩ := Prod.mk.inj h
            obtain ⟨hv', g0, g1⟩ := segV_arc hv
            have hb := lnk_bd (valid_lnk hv' (lnk_at g0 g1).2)
            rw [isN_true]
            unfold head
            split <;> omega
          · rw [if_neg h5] at h; simp at h
        · rw [if_neg h4] at h; simp at h

/-- The last end, or where one began. -/
def lastE (f : Int) (xs : List Int) : Int := xs.getLastD f
theorem joinE_ok {a : List Int} {q : List Int × Int} (h : q.2 = 0) : joinE a q = (a ++ q.1, 0) := if_pos h
theorem joinE_bad {a : List Int} {q : List Int × Int} (h : ¬ q.2 = 0) : joinE a q = ([], q.2) := if_neg h
theorem lastE_cons (f x : Int) (xs : List Int) : lastE f (x :: xs) = lastE x xs := by
  unfold lastE; cases xs <;> simp [List.getLastD]
theorem endsL_app (t : Topo) (b : List (Int × Int)) : ∀ (a : List (Int × Int)) (f : Int),
    endsL t (a ++ b) f = if (endsL t a f).2 = 0 then joinE (endsL t a f).1 (endsL t b (lastE f (endsL t a f).1)) else ([], (endsL t a f).2)
  | [], f => by
    simp only [List.nil_append, endsL, if_true]
    exact (joinE_nil _ (endsL_nil t b f)).symm
  | p :: r, f => by
    have ih := endsL_app t b r (endR t p.1 p.2 f).1
    by_cases h : (endR t p.1 p.2 f).2 = 0
    · have e1 : endsL t (p :: (r ++ b)) f = joinE [(endR t p.1 p.2 f).1] (endsL t (r ++ b) (endR t p.1 p.2 f).1) := by rw [endsL, if_pos h]
      have e2 : endsL t (p :: r) f = joinE [(endR t p.1 p.2 f).1] (endsL t r (endR t p.1 p.2 f).1) := by rw [endsL, if_pos h]
      rw [List.cons_append, e1, e2, ih]
      by_cases h2 : (endsL t r (endR t p.1 p.2 f).1).2 = 0
      · rw [if_pos h2, joinE_ok h2, joinE_join]
        simp only [if_true, List.singleton_append]
        rw [lastE_cons]
      · rw [if_neg h2, joinE_bad h2]
        simp only [if_neg h2]
        exact joinE_bad h2
    · have e1 : endsL t (p :: (r ++ b)) f = ([], (endR t p.1 p.2 f).2) := by rw [endsL, if_neg h]
      have e2 : endsL t (p :: r) f = ([], (endR t p.1 p.2 f).2) := by rw [endsL, if_neg h]
      rw [List.cons_append, e1, e2]
      simp only [if_neg h]
theorem endsL_ok (t : Topo) : ∀ (l : List (Int × Int)) (f : Int), (endsL t l f).2 = 0 → (endsL t l f).1.length = l.length ∧ ∀ x ∈ (endsL t l f).1, isN t.n x = true
  | [], _ => fun _ => ⟨rfl, by simp [endsL]⟩
  | p :: r, f => by
    intro h
    unfold endsL at h ⊢
    by_cases h1 : (endR t p.1 p.2 f).2 = 0
    · rw [if_pos h1] at h ⊢
      by_cases h2 : (endsL t r (endR t p.1 p.2 f).1).2 = 0
      · rw [joinE_ok h2]
        have ih := endsL_ok t r _ h2
        refine ⟨by simp [ih.1], fun x hx => ?_⟩
        simp only [List.singleton_append, List.mem_cons] at hx
        rcases hx with rfl | hx
        · exact endR_node (f := f) (k := p.1) (m := p.2) (Prod.ext rfl h1)
        · exact ih.2 x hx
      · rw [joinE_bad h2] at h; exact absurd h h2
    · rw [if_neg h1] at h; exact absurd h h1

/-- The law: with f' the last end of the first part. -/
theorem ends_join {t : Topo} {l : List (Int × Int)} {f : Int} {k : Nat} (hk : k ≤ l.length) {xs ys : List Int} {e e1 : Int} (hV : endsV t l f = (xs, e)) (hU : endsV t (l.take k) f = (ys, e1)) :
    (e1 ≠ 0 → e = e1) ∧ (e1 = 0 → ys.length = k ∧ ∀ zs e2, endsV t (l.drop k) (lastE f ys) = (zs, e2) → e = e2 ∧ (e = 0 → xs = ys ++ zs)) := by
  unfold endsV at hV hU
  by_cases hv : valid t = false
  · rw [if_pos hv] at hV hU
    obtain ⟨rfl, rfl⟩ := Prod.mk.inj hV
    obtain ⟨rfl, rfl⟩ := Prod.mk.inj hU
    exact ⟨fun _ => rfl, fun h => by simp at h⟩
  · rw [if_neg hv] at hV hU
    by_cases hf : isN t.n f = false
    · rw [if_pos hf] at hV hU
      obtain ⟨rfl, rfl⟩ := Prod.mk.inj hV
      obtain ⟨rfl, rfl⟩ := Prod.mk.inj hU
      exact ⟨fun _ => rfl, fun h => by simp at h⟩
    · rw [if_neg hf] at hV hU
      have hf' : isN t.n f = true := by simpa using hf
      have ha := endsL_app t (l.drop k) (l.take k) f
      rw [List.take_append_drop, hV, hU] at ha
      simp only at ha
      refine ⟨fun h => ?_, fun h => ?_⟩
      · rw [if_neg h] at ha
        exact (Prod.mk.inj ha).2
      · rw [if_pos h] at ha
        have ho := endsL_ok t (l.take k) f (by rw [hU]; exact h)
        rw [hU] at ho
        simp only at ho
        refine ⟨by rw [ho.1, List.length_take]; omega, fun zs e2 hZ => ?_⟩
        have hn : isN t.n (lastE f ys) = true := by
          unfold lastE
          cases hys : ys with
          | nil => exact hf'
          | cons y r =>
            rw [List.getLastD_cons]
            exact ho.2 _ (by rw [hys]; exact List.getLastD_mem_cons)
        unfold endsV at hZ
        rw [if_neg hv, if_neg (by rw [hn]; simp)] at hZ
        rw [hZ] at ha
        by_cases h2 : e2 = 0
        · rw [joinE_ok h2] at ha
          obtain ⟨h3, h4⟩ := Prod.mk.inj ha
          exact ⟨by rw [h4, h2], fun _ => h3⟩
        · rw [joinE_bad h2] at ha
          obtain ⟨h3, h4⟩ := Prod.mk.inj ha
          exact ⟨h4, fun h5 => absurd (h4.symm.trans h5) h2⟩

/-- 'append(dst, src...)': dst a row of one's own, src any list that reads as data (nil, empty or not). -/
theorem run_app_list {P : Program} (w : World) (base : Nat) (t ty e : TypeId) (i : TypeInfo) (z : Value) (bytes : Nat) (ht : P.underlying t = some (.slice e)) (hi : P.info? e = some i) (hz : i.zero = some z) (hsize : i.size = 1) (hby : i.bytes = bytes) (hzs : z.cells.size = 1)
    (v : Value) (n : Nat) (xs : List Value) (hown : w.ownsRow base e 1 v n xs) (A : Option Addr) (m c : Nat) (ys : List Value) (hm : ys.length = m) (hr : Rd w A ys) (h1 : ∀ u ∈ ys, u.oneCell' = true)
    (h63 : n + m ≤ maxLen) (hbytes : (n + m) * bytes ≤ 140737488355328) (hbase : base ≤ w.heap.size) :
    ∃ v' w', (Builtin.append_ #[t, t] ty #[v, .slice A m c]).run P w = .ok v' w' ∧ w'.ownsRow base e 1 v' (n + m) (xs ++ ys) ∧ w.grownBy w' v.ownBlock := by
  cases A with
  | none =>
    have hy : ys = [] := by
      rcases hr with h | ⟨b, o, h, _⟩
      · exact h
      · cases h
    subst hy
    have hm0 : m = 0 := hm.symm
    subst hm0
    refine ⟨v, w, ?_, by simpa using hown, ⟨rfl, rfl, rfl, Nat.le_refl _, fun _ _ _ => rfl⟩⟩
    rcases hown.2 with ⟨rfl, rfl⟩ | ⟨g, cap, cur, rfl, _, _, hnc, _⟩
    · simp [Builtin.append_, run_underlying ht, sizeOf, typeInfo, hi, Builtin.lenOf, Builtin.firstCells]
    · simp [Builtin.append_, run_underlying ht, sizeOf, typeInfo, hi, Builtin.lenOf, Builtin.firstCells, hnc, storeCells]
  | some ad =>
    have hc : ∀ j u, ys[j]? = some u → w.cell? (ad.add j) = some u := by
      intro j u hu
      rcases hr with rfl | ⟨b, o, h, hcell⟩
      · simp at hu
      · injection h with h
        subst h
        have := hcell j u hu
        rw [← this]
        congr 1
        unfold Addr.add
        split <;> simp_all
    obtain ⟨v', w', hrun, h2, h3, _⟩ := run_append_own (P := P) w base t ty e i z 1 bytes ht hi hz hsize hby hzs (by decide) v n xs hown ad m c ys (by omega) hc h1 h63 hbytes hbase
    exact ⟨v', w', hrun, h2, h3⟩

/-- The same at an operation that is wanted, guarded or not. -/
theorem wpList_app_list {P : Program} (w : World) {ops : Array Oper} {rest : List Oper} {o : Oper} {a : Act} {Q : Exit → Act → World → Prop} (hw : Region.wanted o (yielded ops a.tmps) = true) (s x : Operand) (t : TypeId)
    (ho : o.op = .call { callee := .builtin .append, args := #[s, x], argTypes := #[t, t] })
    (base : Nat) (e : TypeId) (i : TypeInfo) (z : Value) (bytes : Nat) (ht : P.underlying t = some (.slice e)) (hi : P.info? e = some i) (hz : i.zero = some z) (hsize : i.size = 1) (hby : i.bytes = bytes) (hzs : z.cells.size = 1)
    (v : Value) (n : Nat) (xs : List Value) (hs : a.eval s = v) (hown : w.ownsRow base e 1 v n xs) (A : Option Addr) (m c : Nat) (ys : List Value) (hx : a.eval x = .slice A m c) (hm : ys.length = m) (hr : Rd w A ys) (h1 : ∀ u ∈ ys, u.oneCell' = true)
    (h63 : n + m ≤ maxLen) (hbytes : (n + m) * bytes ≤ 140737488355328) (hbase : base ≤ w.heap.size)
    (h : ∀ v' w', w'.ownsRow base e 1 v' (n + m) (xs ++ ys) → w.grownBy w' v.ownBlock → wpList P ops Q rest (a.put o.dst v') w') : wpList P ops Q (o :: rest) a w := by
  obtain ⟨v', w', hrun, h2, h3⟩ := run_app_list (P := P) w base t o.type e i z bytes ht hi hz hsize hby hzs v n xs hown A m c ys hm hr h1 h63 hbytes hbase
  refine wpList_step fun K hK => ?_
  rw [if_pos hw]
  unfold Oper.wp execOp
  simp only [ho, resolve, invoke, builtin, Sem.run_bind, Sem.run_pure, Result.andThen_ok, List.map_toArray, List.map_cons, List.map_nil, hs, hx, hrun]
  exact hK _ _ (h v' w' h2 h3)

theorem own_empty (w : World) {B : Nat} (hB : B ≤ w.heap.size) (E : TypeId) : (w.alloc (.cells #[] E)).ownsRow B E 1 (.slice (some ⟨w.heap.size, 0, none⟩) 0 0) 0 [] :=
  ⟨by simp, .inr ⟨w.heap.size, 0, #[], rfl, hB, heap_alloc_new w _, Nat.le_refl _, Nat.zero_le _, rfl, by simp⟩⟩
theorem lastE_at {f x : Int} {ys : List Int} (h : ys[ys.length - 1]? = some x) : lastE f ys = x := by
  unfold lastE
  rw [List.getLastD_eq_getLast?, List.getLast?_eq_getElem?, h]
  rfl
theorem RdP.take {w : World} {A : Option Addr} {l : List (Int × Int)} (h : RdP w A l) (k : Nat) : RdP w A (l.take k) := by
  rcases h with rfl | ⟨b, o, rfl, hc⟩
  · exact .inl (by simp)
  · refine .inr ⟨b, o, rfl, fun j p hp => hc j p ?_⟩
    rw [List.getElem?_take] at hp
    split at hp
    · exact hp
    · cases hp
theorem RdP.drop {w : World} {A : Option Addr} {l : List (Int × Int)} (h : RdP w A l) (k : Nat) : RdP w (Option.map (fun x => x.add (k * 2)) A) (l.drop k) := by
  rcases h with rfl | ⟨b, o, rfl, hc⟩
  · exact .inl (by simp)
  · refine .inr ⟨b, o + k * 2, ?_, fun j p hp => ?_⟩
    · simp only [Option.map_some, Addr.add]
      split <;> simp_all
    · rw [List.getElem?_drop] at hp
      have := hc (k + j) p hp
      rw [show o + (k + j) * 2 = o + k * 2 + j * 2 by omega] at this
      exact this

theorem RdP.cut {w : World} {A : Option Addr} {l : List (Int × Int)} {k c : Nat} (h : RdP w A l) (hk : k ≤ l.length) (hc : l.length ≤ c) : RdP w (if c = k then A else Option.map (fun x => x.add (k * 2)) A) (l.drop k) := by
  by_cases e : c = k
  · exact .inl (List.drop_of_length_le (by omega))
  · rw [if_neg e]; exact h.drop k

end Go.Proofs.YtlfjajdpdnnbnaaDoor
