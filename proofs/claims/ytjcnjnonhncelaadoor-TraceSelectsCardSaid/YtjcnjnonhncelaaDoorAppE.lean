/-
  'append(dst, src...)' for lists of structs; lists of events cut in two.
-/
import Derived.Test.YtjcnjnonhncelaaDoorSel
namespace Go.Proofs.YtjcnjnonhncelaaDoor
open Go.RowKit Go.Sort
set_option linter.unusedSimpArgs false
set_option linter.unusedVariables false

/-- 'append(dst, src...)': dst a row of one's own, src any list that reads as data (nil, empty or not). -/
theorem run_app_rows {P : Program} (w : World) (base : Nat) (t ty e : TypeId) (i : TypeInfo) (z : Value) (bytes : Nat) (ht : P.underlying t = some (.slice e)) (hi : P.info? e = some i) (hz : i.zero = some z) (size : Nat) (hsz : 0 < size) (hsize : i.size = size) (hby : i.bytes = bytes) (hzs : z.cells.size = size)
    (v : Value) (n : Nat) (xs : List Value) (hown : w.ownsRow base e size v n xs) (A : Option Addr) (m c : Nat) (ys : List Value) (hm : ys.length = m * size) (hr : Rd w A ys) (h1 : ∀ u ∈ ys, u.oneCell' = true)
    (h63 : n + m ≤ maxLen) (hbytes : (n + m) * bytes ≤ 140737488355328) (hbase : base ≤ w.heap.size) :
    ∃ v' w', (Builtin.append_ #[t, t] ty #[v, .slice A m c]).run P w = .ok v' w' ∧ w'.ownsRow base e size v' (n + m) (xs ++ ys) ∧ w.grownBy w' v.ownBlock := by
  cases A with
  | none =>
    have hy : ys = [] := by
      rcases hr with h | ⟨b, o, h, _⟩
      · exact h
      · cases h
    subst hy
    have hm0 : m = 0 := by
      rcases Nat.eq_zero_or_pos m with h | h
      · exact h
      · have := Nat.mul_pos h hsz; simp at hm; omega
    subst hm0
    refine ⟨v, w, ?_, by simpa using hown, ⟨rfl, rfl, rfl, Nat.le_refl _, fun _ _ _ => rfl⟩⟩
    rcases hown.2 with ⟨rfl, rfl⟩ | ⟨g, cap, cur, rfl, _, _, hnc, _⟩
    · simp [Builtin.append_, run_underlying ht, sizeOf, typeInfo, hi, Builtin.lenOf, Builtin.firstCells]
    · simp [Builtin.append_, run_underlying ht, sizeOf, typeInfo, hi, Builtin.lenOf, Builtin.firstCells, hnc, storeCells]
  | some ad =>
    have hc : ∀ j u, ys[j]? = some u → w.cell? (ad.add j) = some u := by
      intro j u hu
      rcases hr with rfl | ⟨b, o, h, hcell⟩
      · simp at hu
      · injection h with h
        subst h
        have := hcell j u hu
        rw [← this]
        congr 1
        unfold Addr.add
        split <;> simp_all
    obtain ⟨v', w', hrun, h2, h3, _⟩ := run_append_own (P := P) w base t ty e i z size bytes ht hi hz hsize hby hzs hsz v n xs hown ad m c ys hm hc h1 h63 hbytes hbase
    exact ⟨v', w', hrun, h2, h3⟩

/-- The same at an operation that is wanted, guarded or not. -/
theorem wpList_app_rows {P : Program} (w : World) {ops : Array Oper} {rest : List Oper} {o : Oper} {a : Act} {Q : Exit → Act → World → Prop} (hw : Region.wanted o (yielded ops a.tmps) = true) (s x : Operand) (t : TypeId)
    (ho : o.op = .call { callee := .builtin .append, args := #[s, x], argTypes := #[t, t] })
    (base : Nat) (e : TypeId) (i : TypeInfo) (z : Value) (bytes : Nat) (ht : P.underlying t = some (.slice e)) (hi : P.info? e = some i) (hz : i.zero = some z) (size : Nat) (hsz : 0 < size) (hsize : i.size = size) (hby : i.bytes = bytes) (hzs : z.cells.size = size)
    (v : Value) (n : Nat) (xs : List Value) (hs : a.eval s = v) (hown : w.ownsRow base e size v n xs) (A : Option Addr) (m c : Nat) (ys : List Value) (hx : a.eval x = .slice A m c) (hm : ys.length = m * size) (hr : Rd w A ys) (h1 : ∀ u ∈ ys, u.oneCell' = true)
    (h63 : n + m ≤ maxLen) (hbytes : (n + m) * bytes ≤ 140737488355328) (hbase : base ≤ w.heap.size)
    (h : ∀ v' w', w'.ownsRow base e size v' (n + m) (xs ++ ys) → w.grownBy w' v.ownBlock → wpList P ops Q rest (a.put o.dst v') w') : wpList P ops Q (o :: rest) a w := by
  obtain ⟨v', w', hrun, h2, h3⟩ := run_app_rows (P := P) w base t o.type e i z bytes ht hi hz size hsz hsize hby hzs v n xs hown A m c ys hm hr h1 h63 hbytes hbase
  refine wpList_step fun K hK => ?_
  rw [if_pos hw]
  unfold Oper.wp execOp
  simp only [ho, resolve, invoke, builtin, Sem.run_bind, Sem.run_pure, Result.andThen_ok, List.map_toArray, List.map_cons, List.map_nil, hs, hx, hrun]
  exact hK _ _ (h v' w' h2 h3)

theorem own_emptyE (w : World) {B : Nat} (hB : B ≤ w.heap.size) (E : TypeId) : (w.alloc (.cells #[] E)).ownsRow B E 6 (.slice (some ⟨w.heap.size, 0, none⟩) 0 0) 0 [] :=
  ⟨by simp, .inr ⟨w.heap.size, 0, #[], rfl, hB, heap_alloc_new w _, Nat.le_refl _, Nat.zero_le _, rfl, by simp⟩⟩
theorem rd_of_rde {w : World} {A : Option Addr} {l : List Ev} (h : RdE w A l) : Rd w A (evL l) := by
  rcases h with rfl | ⟨b, o, rfl, hc⟩
  · exact .inl rfl
  · refine .inr ⟨b, o, rfl, fun j u hu => ?_⟩
    have hj : j < 6 * l.length := by rw [← evL_len]; exact (List.getElem?_eq_some_iff.1 hu).1
    have hk : j / 6 < l.length := by omega
    have he := List.getElem?_eq_getElem hk
    have hlt : j % 6 < 6 := Nat.mod_lt _ (by decide)
    have hv : (evV l[j / 6])[j % 6]? = some u := by
      obtain ⟨v, hv⟩ : ∃ v, (evV l[j / 6])[j % 6]? = some v := ⟨_, List.getElem?_eq_getElem (show j % 6 < (evV l[j / 6]).length from hlt)⟩
      have h2 := evL_at l (j / 6) _ he (j % 6) v hv
      rw [show j / 6 * 6 + j % 6 = j by omega, hu] at h2
      rw [hv]; exact h2.symm
    have hq := hc (j / 6) _ he
    rw [show o + j = o + j / 6 * 6 + j % 6 by omega]
    have : j % 6 = 0 ∨ j % 6 = 1 ∨ j % 6 = 2 ∨ j % 6 = 3 ∨ j % 6 = 4 ∨ j % 6 = 5 := by omega
    rcases this with h6 | h6 | h6 | h6 | h6 | h6 <;> rw [h6] at hv ⊢ <;> simp [evV] at hv <;> subst hv
    · exact hq.q0
    · exact hq.q1
    · exact hq.q2
    · exact hq.q3
    · exact hq.q4
    · exact hq.q5
theorem evL_app (l m : List Ev) : evL (l ++ m) = evL l ++ evL m := by simp [evL]
theorem evL_one (l : List Ev) : ∀ u ∈ evL l, u.oneCell' = true := by
  intro u hu
  obtain ⟨e, _, he⟩ := List.mem_flatMap.1 hu
  simp [evV] at he
  rcases he with rfl | rfl | rfl | rfl | rfl | rfl <;> rfl
theorem RdE.drop {w : World} {A : Option Addr} {l : List Ev} (h : RdE w A l) (k : Nat) : RdE w (Option.map (fun x => x.add (k * 6)) A) (l.drop k) := by
  rcases h with rfl | ⟨b, o, rfl, hc⟩
  · exact .inl (by simp)
  · refine .inr ⟨b, o + k * 6, ?_, fun j p hp => ?_⟩
    · simp only [Option.map_some, Addr.add]
      split <;> simp_all
    · rw [List.getElem?_drop] at hp
      have := hc (k + j) p hp
      rw [show o + (k + j) * 6 = o + k * 6 + j * 6 by omega] at this
      exact this
/-- A call that returns a new list of events, with its row. -/
def RetEO (w : World) (l : List Ev) (e : Ending) (w' : World) : Prop :=
  ∃ v, e = .returned v ∧ w'.ownsRow w.heap.size 40 6 v l.length (evL l) ∧ Below w.heap.size w w'
theorem retEO_of {w w' : World} {v : Value} {l : List Ev} (h : w'.ownsRow w.heap.size 40 6 v l.length (evL l)) (hb : Below w.heap.size w w') : RetEO w l (.returned v) w' := ⟨v, rfl, h, hb⟩
set_option maxRecDepth 100000 in
set_option maxHeartbeats 4000000 in
theorem trace_BetweenO (A : Option Addr) (c : Nat) (l : List Ev) (a b2 : Int) (w : World) (hA : RdE w A l) (hm : l.length ≤ 100000) :
    Calls Tryd.prog 17 #[.slice A l.length c, .int .i64 a, .int .i64 b2] w (RetEO w (l.filter (betP a b2))) := by
  obtain ⟨i0, hi, hz0, hz1, hz2⟩ := info_parts evInfo
  have HA := Lib.hid hA
  clear hA
  go_enter Tryd.func17, Tryd.ntmps17
  go_wp2_with fail
  go_loopw [7, 12] (fun v i wr => ∃ k : Nat, k ≤ l.length ∧ i = .int .i64 k ∧ wr.ownsRow w.heap.size 40 6 v ((l.take k).filter (betP a b2)).length (evL ((l.take k).filter (betP a b2))) ∧ Hid (Below w.heap.size w wr)) (fun _ i _ => l.length - (intOf i).toNat)
  case atStart => exact ⟨0, Nat.zero_le _, rfl, World.ownsRow_nil _ _ _ _, Lib.hid (Below.refl _ _)⟩
  case round =>
    obtain ⟨k, hk, rfl, hown, HW⟩ := hrel
    by_cases hlt : k < l.length
    · obtain ⟨b, o, e, rfl, he, hc⟩ := (HA.out.below HW.out).at_ hlt
      obtain ⟨q0, q1, q2, q3, q4, q5⟩ := hc
      have HE := Lib.hid he
      clear he
      obtain ⟨M, hM⟩ : ∃ M, M = (l.take k).filter (betP a b2) := ⟨_, rfl⟩
      have hMl : M.length ≤ l.length := by rw [hM]; have := filter_len l (betP a b2) k; omega
      rw [← hM] at hown
      have HM := Lib.hid hM
      have HO := Lib.hid hown
      clear hM hown
      have hws := HW.out.size
      by_cases g1 : a ≤ e.t
      · by_cases g2 : e.t < b2
        · skip
          have HP : Hid ((betP a b2) e = true) := Lib.hid (by simp [betP, g1, g2])
          have HF := Lib.hid (filter_take_t HE.out HP.out)
          have hws' : w.heap.size ≤ wr.heap.size := hws
          have HO0 := HO
          replace HO := Lib.hid (HO.out.alloc (.cells #[.int .i64 e.t, .int .i64 e.k, .int .i64 e.n, .int .i64 e.a, .int .i64 e.p, .int .i64 e.r] 40))
          replace hws : w.heap.size ≤ (wr.alloc (.cells #[.int .i64 e.t, .int .i64 e.k, .int .i64 e.n, .int .i64 e.a, .int .i64 e.p, .int .i64 e.r] 40)).heap.size := by simp; omega
          go_wp2_with (first | (go_at_call 38; refine (trace_within _ _ _ _).mono ?_; rintro e1 w1 ⟨rfl, rfl⟩) | (at_builtin; refine wpList_append_own _ rfl _ _ 22 rfl w.heap.size 40 i0 (.agg #[.int .i64 0, .int .i64 0, .int .i64 0, .int .i64 0, .int .i64 0, .int .i64 0]) 6 48 Tryd.underlying22 hi hz0 hz1 hz2 rfl (by decide) _ _ _ rfl (HO.out.alloc _) ⟨_, 0, none⟩ 1 1 [.int .i64 e.t, .int .i64 e.k, .int .i64 e.n, .int .i64 e.a, .int .i64 e.p, .int .i64 e.r] rfl rfl ?c1 ?c2 ?c3 ?c4 ?c5 ?_))
          case c1 => exact cells_new _ _ _ _ (by simp)
          case c2 => intro u hu; simp at hu; rcases hu with rfl | rfl | rfl | rfl | rfl | rfl <;> rfl
          case c3 => unfold maxLen; omega
          case c4 => omega
          case c5 => simp; omega
          intro v' w2 hown' hgrow _
          have R := ownE_next (e := e) HO.out hws hown' hgrow
          have HR := Lib.hid R
          clear hown' hgrow R
          go_wp2_with fail
          go_roundw
          case rel => exact ⟨k + 1, by omega, by go_num, by rw [HF.out, ← HM.out]; exact HR.out.1, Lib.hid ((below_next HW.out (below_box _ _)).trans HR.out.2)⟩
          case measure => simp [intOf]; omega
        · have g2c : b2 ≤ e.t := by omega
          have HP : Hid ((betP a b2) e = false) := Lib.hid (by simp [betP, g2])
          have HF := Lib.hid (filter_take_f HE.out HP.out)
          go_wp2_with (first | (go_at_call 38; refine (trace_within _ _ _ _).mono ?_; rintro e1 w1 ⟨rfl, rfl⟩))
          go_roundw
          case rel => exact ⟨k + 1, by omega, by go_num, by rw [HF.out, ← HM.out]; exact HO.out.alloc _, Lib.hid (below_next HW.out (below_box _ _))⟩
          case measure => simp [intOf]; omega
      · have g1c : e.t < a := by omega
        have HP : Hid ((betP a b2) e = false) := Lib.hid (by simp [betP, g1])
        have HF := Lib.hid (filter_take_f HE.out HP.out)
        go_wp2_with (first | (go_at_call 38; refine (trace_within _ _ _ _).mono ?_; rintro e1 w1 ⟨rfl, rfl⟩))
        go_roundw
        case rel => exact ⟨k + 1, by omega, by go_num, by rw [HF.out, ← HM.out]; exact HO.out.alloc _, Lib.hid (below_next HW.out (below_box _ _))⟩
        case measure => simp [intOf]; omega
    · obtain rfl : k = l.length := by omega
      rw [List.take_length] at hown
      have HO := Lib.hid hown
      clear hown
      go_wp2_with fail
      go_ret
      exact retEO_of HO.out HW.out


end Go.Proofs.YtjcnjnonhncelaaDoor
