/-
  graph.Entering, topology.In and waypointref09.Has: what each returns, for every topology in memory.
-/
import Derived.Test.YtenhliibmcmnbaaGreatOut
import Derived.OwnWalk
namespace Go.Proofs.YtenhliibmcmnbaaGreat
open Go.RowKit Go.Sort

/-- The arcs of each node: a row of rows, each in memory of its own. -/
structure Fan (w : World) (B g n cap : Nat) (vl : List Value) (L : Nat → List Int) : Prop where
  out : w.ownsRow B 50 1 (.slice (some ⟨g, 0, none⟩) n cap) n vl
  own : ∀ (j : Nat) (v : Value), vl[j]? = some v → w.ownsRow B 3 1 v (L j).length ((L j).map (Value.int .i64)) ∧ v.ownBlock ≠ some g
  dis : ∀ (i j : Nat) (v u : Value), vl[i]? = some v → vl[j]? = some u → i ≠ j → v.ownBlock = none ∨ v.ownBlock ≠ u.ownBlock

theorem own_setCell {w : World} {B : Nat} {E : TypeId} {size : Nat} {v : Value} {n : Nat} {xs : List Value} {g j : Nat} (h : w.ownsRow B E size v n xs) (hne : v.ownBlock ≠ some g) (u : Value) : (w.setCell ⟨g, j, none⟩ u).ownsRow B E size v n xs := by
  rcases h with ⟨hl, h0 | ⟨g', cap, cur, rfl, hB, hg, rest⟩⟩
  · exact ⟨hl, .inl h0⟩
  · refine ⟨hl, .inr ⟨g', cap, cur, rfl, hB, ?_, rest⟩⟩
    rw [Below.heap_setCell w ⟨g, j, none⟩ u g' (by simpa [Value.ownBlock] using hne)]
    exact hg

theorem Fan.lt {w : World} {B g n cap : Nat} {vl : List Value} {L : Nat → List Int} (F : Fan w B g n cap vl L) : B ≤ g ∧ g < w.heap.size := F.out.lt g rfl
theorem Fan.len {w : World} {B g n cap : Nat} {vl : List Value} {L : Nat → List Int} (F : Fan w B g n cap vl L) : vl.length = n := by simpa using F.out.1
theorem Fan.up {w w' : World} {B g n cap : Nat} {vl : List Value} {L : Nat → List Int} (F : Fan w B g n cap vl L) (hb : Below w.heap.size w w') : Fan w' B g n cap vl L :=
  ⟨own_up F.out hb, fun j v hv => ⟨own_up (F.own j v hv).1 hb, (F.own j v hv).2⟩, F.dis⟩
theorem Fan.at_ {w : World} {B g n cap : Nat} {vl : List Value} {L : Nat → List Int} (F : Fan w B g n cap vl L) {h : Nat} (hh : h < n) :
    ∃ v, vl[h]? = some v ∧ w.cell? ⟨g, h, none⟩ = some v ∧ w.ownsRow B 3 1 v (L h).length ((L h).map (Value.int .i64)) := by
  have hl : h < vl.length := by rw [F.len]; exact hh
  refine ⟨vl[h], List.getElem?_eq_getElem hl, ?_, (F.own h _ (List.getElem?_eq_getElem hl)).1⟩
  rw [F.out.cellAt h (by omega)]
  exact List.getElem?_eq_getElem hl

/-- The row with one number more. -/
def addTo (L : Nat → List Int) (h : Nat) (x : Int) (j : Nat) : List Int := if j = h then L j ++ [x] else L j

/-- What stands before the store: the outer row is as it was; the block that was appended to is not it. -/
theorem Fan.mid {w w1 : World} {B g n cap : Nat} {vl : List Value} {L : Nat → List Int} {o : Obj} {v : Value} {h : Nat} (F : Fan w B g n cap vl L) (hv : vl[h]? = some v) (hg : (w.alloc o).grownBy w1 v.ownBlock) :
    w1.ownsRow B 50 1 (.slice (some ⟨g, 0, none⟩) n cap) n vl :=
  (F.out.alloc o).kept hg (.inr fun e => (F.own h v hv).2 e.symm)

theorem Fan.step {w w1 : World} {B g n cap : Nat} {vl : List Value} {L : Nat → List Int} {o : Obj} {v v' : Value} {h : Nat} {x : Int} (F : Fan w B g n cap vl L) (hv : vl[h]? = some v)
    (own' : w1.ownsRow B 3 1 v' ((L h).length + 1) ((L h).map (Value.int .i64) ++ [.int .i64 x])) (hg : (w.alloc o).grownBy w1 v.ownBlock) (hat : v'.ownBlock = v.ownBlock ∨ v'.ownBlock = some (w.alloc o).heap.size) :
    Fan (w1.setCell ⟨g, h, none⟩ v') B g n cap (vl.set h v') (addTo L h x) := by
  have hlv : h < vl.length := (List.getElem?_eq_some_iff.1 hv).1
  have hne : v'.ownBlock ≠ some g := by
    rcases hat with e | e
    · rw [e]; exact (F.own h v hv).2
    · rw [e]; intro h'; have := F.lt; simp at h'; omega
  have get : ∀ j u, (vl.set h v')[j]? = some u → (j = h ∧ u = v') ∨ (j ≠ h ∧ vl[j]? = some u) := by
    intro j u hu
    by_cases e : j = h
    · subst e; rw [List.getElem?_set_self hlv] at hu; injection hu with hu; exact .inl ⟨rfl, hu.symm⟩
    · rw [List.getElem?_set_ne (Ne.symm e)] at hu; exact .inr ⟨e, hu⟩
  refine ⟨((F.mid hv hg).stored h v').1, fun j u hu => ?_, fun i j u u' hu hu' hij => ?_⟩
  · rcases get j u hu with ⟨rfl, rfl⟩ | ⟨e, hu'⟩
    · refine ⟨own_setCell ?_ hne _, hne⟩
      simpa [addTo] using own'
    · have F1 := F.own j u hu'
      refine ⟨own_setCell ?_ F1.2 _, F1.2⟩
      simp only [addTo, if_neg e]
      exact (F1.1.alloc o).kept hg (F.dis j h u v hu' hv e)
  · have small : ∀ (j : Nat) (u : Value), vl[j]? = some u → u.ownBlock ≠ some (w.alloc o).heap.size := by
      intro j u hu e
      have := (F.own j u hu).1.lt _ e
      simp at this
      omega
    rcases get i u hu with ⟨rfl, rfl⟩ | ⟨e, h1⟩ <;> rcases get j u' hu' with ⟨rfl, rfl⟩ | ⟨e', h2⟩
    · exact absurd rfl hij
    · rcases hat with e2 | e2
      · rw [e2]; exact F.dis _ _ v u' hv h2 hij
      · rw [e2]; exact .inr fun e3 => small _ _ h2 e3.symm
    · rcases hat with e2 | e2
      · rw [e2]; exact F.dis _ _ u v h1 hv hij
      · rw [e2]; exact .inr (small _ _ h1)
    · exact F.dis _ _ u u' h1 h2 hij

theorem Fan.start {w : World} {B g n : Nat} {xs : List Value} (h : w.ownsRow B 50 1 (.slice (some ⟨g, 0, none⟩) n n) n xs) (hx : xs = List.replicate n (.slice none 0 0)) : Fan w B g n n xs (fun _ => []) := by
  subst hx
  have get : ∀ (j : Nat) (v : Value), (List.replicate n (Value.slice none 0 0))[j]? = some v → v = .slice none 0 0 := fun j v hv => by
    have := List.mem_of_getElem? hv
    exact List.eq_of_mem_replicate this
  refine ⟨h, fun j v hv => ?_, fun i j v u hv _ _ => ?_⟩
  · rw [get j v hv]; exact ⟨World.ownsRow_nil _ _ _ _, by simp [Value.ownBlock]⟩
  · rw [get i v hv]; exact .inl rfl

def inN (t : Topo) (k : Nat) (n : Nat) : List Int := ups (inP t n) k
theorem inN_zero (t : Topo) : inN t 0 = fun _ => [] := rfl
theorem inN_next (t : Topo) (k h : Nat) (hh : head t k = (h : Int)) : inN t (k + 1) = addTo (inN t k) h k := by
  funext j
  unfold inN addTo
  by_cases e : j = h
  · subst e; rw [if_pos rfl, ups_hit (by simp [inP, hh])]
  · rw [if_neg e, ups_miss (by simp [inP, hh]; omega)]

theorem Fan.below {w w1 : World} {B g n cap : Nat} {vl : List Value} {L : Nat → List Int} {o : Obj} {v v' : Value} {h : Nat} (F : Fan w B g n cap vl L) (hv : vl[h]? = some v) (hB : B ≤ w.heap.size) (hg : (w.alloc o).grownBy w1 v.ownBlock) :
    Below B w (w1.setCell ⟨g, h, none⟩ v') :=
  (((Below.refl B w).alloc hB o).grown hg (by simp; omega) (fun k hk => ((F.own h v hv).1.lt k hk).1)).setCell (p := ⟨g, h, none⟩) F.lt.1 _

theorem sliceInfo : (Tryz.prog.info? 50).map (fun i => (i.zero, i.size, i.bytes)) = some (some (.slice none 0 0), 1, 24) := by kernel_rfl

/-- What Entering returns. -/
def RetFan (w : World) (t : Topo) (e : Ending) (w' : World) : Prop :=
  ∃ (g n cap : Nat) (vl : List Value), ((n : Nat) : Int) = t.n ∧ e = .returned (.slice (some ⟨g, 0, none⟩) n cap) ∧ Fan w' (w.heap.size + 1) g n cap vl (inN t (2 * t.ls.length)) ∧ Below w.heap.size w w'

theorem head_bd {t : Topo} (hv : valid t = true) {a : Int} (h0 : 0 ≤ a) (h1 : a < 2 * (t.ls.length : Int)) : 0 ≤ head t a ∧ head t a < t.n := by
  have := lnk_bd (valid_lnk hv (lnk_at h0 h1).2)
  unfold head
  split <;> omega

set_option maxHeartbeats 1000000 in
theorem graph_Entering (t : Topo) (A1 A2 : Option Addr) (c1 c2 : Nat) (w : World) (hT : TAt w A1 A2 t) (hn : t.ls.length ≤ 100000) (hv : valid t = true) :
    Calls Tryz.prog 283 #[.agg #[.int .i64 t.n, .slice A1 t.ov.length c1, .slice A2 t.ls.length c2]] w (RetFan w t) := by
  obtain ⟨i0, hi, hz0, hz1, hz2⟩ := info_parts intInfo
  obtain ⟨j0, hj, hy0, hy1, hy2⟩ := info_parts sliceInfo
  have hX := TBox.start c1 c2 hT
  have HT0 := Lib.hid hT
  obtain ⟨hn1, hn2⟩ := valid_n hv
  obtain ⟨m, hm⟩ : ∃ m : Nat, t.n = (m : Int) := ⟨t.n.toNat, by omega⟩
  have HM := Lib.hid hm
  have HV := Lib.hid hv
  have b0 := hX.b0
  have b1 := hX.b1
  have b2 := hX.b2
  have HX := Lib.hid hX
  rw [hm] at hn1 hn2
  clear hX hT hv hm
  go_enter Tryz.func283, Tryz.ntmps283
  go_wp2_with (first | (at_make; refine wpList_make_full _ rfl _ _ 412 rfl (w.heap.size + 1) 50 j0 (.slice none 0 0) 1 Tryz.underlying412 hj hy0 hy1 .i64 .i64 t.n t.n m rfl rfl HM.out HM.out ?d1 ?d2 ?d3 ?_))
  case d1 => rw [hy2]; omega
  case d2 => unfold maxLen; omega
  case d3 => simp
  intro w1 hown hgrow
  have F0 := Fan.start hown (toList_madeCells_one _ _)
  have hb1 : Below (w.alloc (.cells #[.int .i64 t.n, .slice A1 t.ov.length c1, .slice A2 t.ls.length c2] 25)).heap.size (w.alloc (.cells #[.int .i64 t.n, .slice A1 t.ov.length c1, .slice A2 t.ls.length c2] 25)) w1 := (Below.refl _ _).grown hgrow (Nat.le_refl _) (by simp)
  replace HX := Lib.hid (HX.out.up hb1)
  replace b0 := HX.out.b0
  replace b1 := HX.out.b1
  replace b2 := HX.out.b2
  have HF := Lib.hid F0
  clear hown hgrow F0 hb1
  go_wp2_with (go_at_call 56; refine (graph_Arcs _ _ _ _ _ _ hn).mono ?_; rintro e w2 ⟨rfl, hb2⟩)
  replace HX := Lib.hid (HX.out.up hb2)
  replace HF := Lib.hid (HF.out.up hb2)
  clear b0 b1 b2 hb2
  go_loopw [11] (fun i wr => ∃ (k : Nat) (vl : List Value), k ≤ 2 * t.ls.length ∧ i = .int .i64 k ∧ Hid (Fan wr (w.heap.size + 1) (w.heap.size + 1) m m vl (inN t k)) ∧ Hid (TBox w A1 A2 c1 c2 t wr)) (fun i _ => 2 * t.ls.length - (intOf i).toNat)
  case atStart => exact ⟨0, _, Nat.zero_le _, rfl, HF, HX⟩
  case round =>
    clear HX HF
    obtain ⟨k, vl, hk, rfl, HF, HX⟩ := hrel
    have b0 := HX.out.b0
    have b1 := HX.out.b1
    have b2 := HX.out.b2
    by_cases hlt : k < 2 * t.ls.length
    · have hlt' : (k : Int) < 2 * (t.ls.length : Int) := by omega
      have hul := ups_le (inP t (head t k)) k
      obtain ⟨h, hh⟩ : ∃ h : Nat, head t k = (h : Int) := ⟨(head t k).toNat, by have := head_bd HV.out (a := k) (by omega) hlt'; omega⟩
      have hhm : h < m := by have := head_bd HV.out (a := k) (by omega) hlt'; have := HM.out; omega
      rw [hh] at hul
      have HH := Lib.hid hh
      clear hh
      have hhm' : (h : Int) < (m : Int) := by omega
      have hul' : (inN t k h).length ≤ k := hul
      clear hul
      go_wp2_with (first | (go_at_call 76; refine (graph_Head _ _ _ _ t _ _ HX.out.ta.ls (by omega) hlt' hn).mono ?_; rw [HH.out]; rintro e w3 ⟨rfl, hb3⟩; replace HX := Lib.hid (HX.out.up hb3); replace HF := Lib.hid (HF.out.up hb3); clear hb3 b0 b1 b2; obtain ⟨v, hv, hvc, hvo⟩ := HF.out.at_ hhm; have HVL := Lib.hid hv; have HVO := Lib.hid hvo; clear hv hvo) | (at_builtin; refine wpList_append_own_at _ rfl _ _ 50 rfl (w.heap.size + 1) 3 i0 (.int .i64 0) 1 8 Tryz.underlying50 hi hz0 hz1 hz2 rfl (by decide) v _ _ rfl (HVO.out.alloc _) ⟨_, 0, none⟩ 1 1 [.int .i64 k] rfl rfl (cell_one_new _ _ _) ?c2 ?c3 ?c4 ?c5 ?_))
      case c2 => intro u hu; simp at hu; subst hu; rfl
      case c3 => unfold maxLen; omega
      case c4 => omega
      case c5 => have := HF.out.lt; simp; omega
      intro v' w4 hown' hgrow _ hat
      have F1 := Lib.hid (HF.out.step HVL.out hown' hgrow (by simpa using hat))
      have F2 := Lib.hid (HF.out.below (v' := v') HVL.out (by have := HF.out.lt; omega) hgrow)
      have F3 := HF.out.mid HVL.out hgrow
      have q0 : w4.cell? ⟨w.heap.size + 1, h, none⟩ = some v := by
        rw [F3.cellAt h (by omega)]; exact HVL.out
      have q1 : w4.frozen? ⟨w.heap.size + 1, h, none⟩ = false := F3.frozenAt h
      have HS := Lib.hid hown'.2
      clear hown' hgrow hat F3
      obtain ⟨A', cp, rfl⟩ : ∃ A' cp, v' = .slice A' ((inN t k h).length + 1) cp := by
        rcases HS.out with ⟨_, h0⟩ | ⟨g, cp, cur, hv', _⟩
        · omega
        · exact ⟨_, _, hv'⟩
      go_wp2_with fail
      go_roundw
      case rel => exact ⟨k + 1, _, by omega, by go_num, Lib.hid (by rw [inN_next t k h HH.out]; exact F1.out), Lib.hid (keep_box HX.out F2.out HT0.out)⟩
      case measure => simp [intOf]; omega
    · obtain rfl : k = 2 * t.ls.length := by omega
      go_wp2_with fail
      go_ret
      exact ⟨_, _, _, _, HM.out.symm, rfl, HF.out, HX.out.hb⟩

theorem has_at {xs : List Int} {k : Nat} {x n : Int} (h : xs[k]? = some x) (he : (x == n) = true) : decide (n ∈ xs) = true := by
  simp at he; subst he; simpa using List.mem_of_getElem? h
theorem has_none {xs : List Int} {n : Int} (h : ∀ j x, j < xs.length → xs[j]? = some x → (x == n) = false) : decide (n ∈ xs) = false := by
  simp only [decide_eq_false_iff_not]
  intro hm
  obtain ⟨j, hj, rfl⟩ := List.getElem_of_mem hm
  have := h j _ hj (List.getElem?_eq_getElem hj)
  simp at this

theorem tail_bd {t : Topo} (hv : valid t = true) {a : Int} (h0 : 0 ≤ a) (h1 : a < 2 * (t.ls.length : Int)) : 0 ≤ tail t a ∧ tail t a < t.n := by
  have := lnk_bd (valid_lnk hv (lnk_at h0 h1).2)
  unfold tail
  split <;> omega
theorem ups_none {p : Int → Bool} {k : Nat} (h : ∀ x : Int, 0 ≤ x → x < (k : Int) → p x = false) : ups p k = [] := by
  rw [ups_congr (q := fun _ => false) (fun x h0 h1 => h x h0 h1)]
  induction k with
  | zero => rfl
  | succ k ih => unfold ups; simpa using ih (fun x h0 h1 => h x h0 (by omega))
theorem outV_eq (t : Topo) (n : Int) : (if valid t && isN t.n n then outV t n else []) = outV t n := by
  cases hv : valid t with
  | false => simp [outV, arcsV_false hv, ups]
  | true =>
    cases hn : isN t.n n with
    | true => simp
    | false =>
      simp only [Bool.and_false]
      rw [outV, arcsV_two hv, ups_none]
      · rfl
      · intro x h0 h1
        have := tail_bd hv h0 (by omega)
        simp only [outP, beq_eq_false_iff_ne]
        intro e
        rw [isN_false] at hn
        omega
theorem inV_eq (t : Topo) (n : Int) : (if valid t && isN t.n n then inV t n else []) = inV t n := by
  cases hv : valid t with
  | false => simp [inV, arcsV_false hv, ups]
  | true =>
    cases hn : isN t.n n with
    | true => simp
    | false =>
      simp only [Bool.and_false]
      rw [inV, arcsV_two hv, ups_none]
      · rfl
      · intro x h0 h1
        have := head_bd hv h0 (by omega)
        simp only [inP, beq_eq_false_iff_ne]
        intro e
        rw [isN_false] at hn
        omega
theorem outV_le (t : Topo) (n : Int) (h : t.ls.length ≤ 100000) : (outV t n).length ≤ 4611686018427387904 := by
  have h1 := ups_le (outP t n) (arcsV t).toNat
  have h2 : (arcsV t).toNat ≤ 200000 := by unfold arcsV; split <;> omega
  unfold outV; omega
theorem inV_le (t : Topo) (n : Int) (h : t.ls.length ≤ 100000) : (inV t n).length ≤ 4611686018427387904 := by
  have h1 := ups_le (inP t n) (arcsV t).toNat
  have h2 : (arcsV t).toNat ≤ 200000 := by unfold arcsV; split <;> omega
  unfold inV; omega
/-- What the loads of a drawn region read, and what the calls need. -/
theorem TBox.keep {w w' : World} {A1 A2 : Option Addr} {c1 c2 : Nat} {t : Topo} (h : Hid (TBox w A1 A2 c1 c2 t w')) :
    w'.cell? ⟨w.heap.size, 0, none⟩ = some (.int .i64 t.n) ∧ w'.cell? ⟨w.heap.size, 1, none⟩ = some (.slice A1 t.ov.length c1) ∧ w'.cell? ⟨w.heap.size, 2, none⟩ = some (.slice A2 t.ls.length c2) ∧ Hid (TBox w A1 A2 c1 c2 t w') :=
  ⟨h.out.b0, h.out.b1, h.out.b2, h⟩
theorem below_drew1 (w : World) : Below w.heap.size w w.drew := ⟨rfl, rfl, rfl, Nat.le_refl _, fun _ _ => rfl⟩

end Go.Proofs.YtenhliibmcmnbaaGreat
