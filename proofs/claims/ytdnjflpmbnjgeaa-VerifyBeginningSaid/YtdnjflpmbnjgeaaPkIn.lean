/-
  graph.Entering, topology.In and waypointref09.Has: what each returns, for every topology in memory.
  An indexed queue in memory: before, swap.
-/
import Derived.Test.YtdnjflpmbnjgeaaPkOut
import Derived.OwnWalk
import Derived.Test.YtdnjflpmbnjgeaaPkBase
namespace Go.Proofs.Ytdnjflpmbnjgeaa
open Go.RowKit Go.Sort
/-- The arcs of each node: a row of rows, each in memory of its own. -/
structure Fan (w : World) (B g n cap : Nat) (vl : List Value) (L : Nat → List Int) : Prop where
  out : w.ownsRow B 58 1 (.slice (some ⟨g, 0, none⟩) n cap) n vl
  own : ∀ (j : Nat) (v : Value), vl[j]? = some v → w.ownsRow B 3 1 v (L j).length ((L j).map (Value.int .i64)) ∧ v.ownBlock ≠ some g
  dis : ∀ (i j : Nat) (v u : Value), vl[i]? = some v → vl[j]? = some u → i ≠ j → v.ownBlock = none ∨ v.ownBlock ≠ u.ownBlock
theorem own_setCell {w : World} {B : Nat} {E : TypeId} {size : Nat} {v : Value} {n : Nat} {xs : List Value} {g j : Nat} (h : w.ownsRow B E size v n xs) (hne : v.ownBlock ≠ some g) (u : Value) : (w.setCell ⟨g, j, none⟩ u).ownsRow B E size v n xs := by
  rcases h with ⟨hl, h0 | ⟨g', cap, cur, rfl, hB, hg, rest⟩⟩
  · exact ⟨hl, .inl h0⟩
  · refine ⟨hl, .inr ⟨g', cap, cur, rfl, hB, ?_, rest⟩⟩
    rw [Below.heap_setCell w ⟨g, j, none⟩ u g' (by simpa [Value.ownBlock] using hne)]
    exact hg
theorem Fan.lt {w : World} {B g n cap : Nat} {vl : List Value} {L : Nat → List Int} (F : Fan w B g n cap vl L) : B ≤ g ∧ g < w.heap.size := F.out.lt g rfl
theorem Fan.len {w : World} {B g n cap : Nat} {vl : List Value} {L : Nat → List Int} (F : Fan w B g n cap vl L) : vl.length = n := by simpa using F.out.1
theorem Fan.up {w w' : World} {B g n cap : Nat} {vl : List Value} {L : Nat → List Int} (F : Fan w B g n cap vl L) (hb : Below w.heap.size w w') : Fan w' B g n cap vl L :=
  ⟨own_up F.out hb, fun j v hv => ⟨own_up (F.own j v hv).1 hb, (F.own j v hv).2⟩, F.dis⟩
theorem Fan.at_ {w : World} {B g n cap : Nat} {vl : List Value} {L : Nat → List Int} (F : Fan w B g n cap vl L) {h : Nat} (hh : h < n) :
    ∃ v, vl[h]? = some v ∧ w.cell? ⟨g, h, none⟩ = some v ∧ w.ownsRow B 3 1 v (L h).length ((L h).map (Value.int .i64)) := by
  have hl : h < vl.length := by rw [F.len]; exact hh
  refine ⟨vl[h], List.getElem?_eq_getElem hl, ?_, (F.own h _ (List.getElem?_eq_getElem hl)).1⟩
  rw [F.out.cellAt h (by omega)]
  exact List.getElem?_eq_getElem hl
/-- The row with one number more. -/
def addTo (L : Nat → List Int) (h : Nat) (x : Int) (j : Nat) : List Int := if j = h then L j ++ [x] else L j
/-- What stands before the store: the outer row is as it was; the block that was appended to is not it. -/
theorem Fan.mid {w w1 : World} {B g n cap : Nat} {vl : List Value} {L : Nat → List Int} {o : Obj} {v : Value} {h : Nat} (F : Fan w B g n cap vl L) (hv : vl[h]? = some v) (hg : (w.alloc o).grownBy w1 v.ownBlock) :
    w1.ownsRow B 58 1 (.slice (some ⟨g, 0, none⟩) n cap) n vl :=
  (F.out.alloc o).kept hg (.inr fun e => (F.own h v hv).2 e.symm)
theorem Fan.step {w w1 : World} {B g n cap : Nat} {vl : List Value} {L : Nat → List Int} {o : Obj} {v v' : Value} {h : Nat} {x : Int} (F : Fan w B g n cap vl L) (hv : vl[h]? = some v)
    (own' : w1.ownsRow B 3 1 v' ((L h).length + 1) ((L h).map (Value.int .i64) ++ [.int .i64 x])) (hg : (w.alloc o).grownBy w1 v.ownBlock) (hat : v'.ownBlock = v.ownBlock ∨ v'.ownBlock = some (w.alloc o).heap.size) :
    Fan (w1.setCell ⟨g, h, none⟩ v') B g n cap (vl.set h v') (addTo L h x) := by
  have hlv : h < vl.length := (List.getElem?_eq_some_iff.1 hv).1
  have hne : v'.ownBlock ≠ some g := by
    rcases hat with e | e
    · rw [e]; exact (F.own h v hv).2
    · rw [e]; intro h'; have := F.lt; simp at h'; omega
  have get : ∀ j u, (vl.set h v')[j]? = some u → (j = h ∧ u = v') ∨ (j ≠ h ∧ vl[j]? = some u) := by
    intro j u hu
    by_cases e : j = h
    · subst e; rw [List.getElem?_set_self hlv] at hu; injection hu with hu; exact .inl ⟨rfl, hu.symm⟩
    · rw [List.getElem?_set_ne (Ne.symm e)] at hu; exact .inr ⟨e, hu⟩
  refine ⟨((F.mid hv hg).stored h v').1, fun j u hu => ?_, fun i j u u' hu hu' hij => ?_⟩
  · rcases get j u hu with ⟨rfl, rfl⟩ | ⟨e, hu'⟩
    · refine ⟨own_setCell ?_ hne _, hne⟩
      simpa [addTo] using own'
    · have F1 := F.own j u hu'
      refine ⟨own_setCell ?_ F1.2 _, F1.2⟩
      simp only [addTo, if_neg e]
      exact (F1.1.alloc o).kept hg (F.dis j h u v hu' hv e)
  · have small : ∀ (j : Nat) (u : Value), vl[j]? = some u → u.ownBlock ≠ some (w.alloc o).heap.size := by
      intro j u hu e
      have := (F.own j u hu).1.lt _ e
      simp at this
      omega
    rcases get i u hu with ⟨rfl, rfl⟩ | ⟨e, h1⟩ <;> rcases get j u' hu' with ⟨rfl, rfl⟩ | ⟨e', h2⟩
    · exact absurd rfl hij
    · rcases hat with e2 | e2
      · rw [e2]; exact F.dis _ _ v u' hv h2 hij
      · rw [e2]; exact .inr fun e3 => small _ _ h2 e3.symm
    · rcases hat with e2 | e2
      · rw [e2]; exact F.dis _ _ u v h1 hv hij
      · rw [e2]; exact .inr (small _ _ h1)
    · exact F.dis _ _ u u' h1 h2 hij
theorem Fan.start {w : World} {B g n : Nat} {xs : List Value} (h : w.ownsRow B 58 1 (.slice (some ⟨g, 0, none⟩) n n) n xs) (hx : xs = List.replicate n (.slice none 0 0)) : Fan w B g n n xs (fun _ => []) := by
  subst hx
  have get : ∀ (j : Nat) (v : Value), (List.replicate n (Value.slice none 0 0))[j]? = some v → v = .slice none 0 0 := fun j v hv => by
    have := List.mem_of_getElem? hv
    exact List.eq_of_mem_replicate this
  refine ⟨h, fun j v hv => ?_, fun i j v u hv _ _ => ?_⟩
  · rw [get j v hv]; exact ⟨World.ownsRow_nil _ _ _ _, by simp [Value.ownBlock]⟩
  · rw [get i v hv]; exact .inl rfl
def inN (t : Topo) (k : Nat) (n : Nat) : List Int := ups (inP t n) k
theorem inN_next (t : Topo) (k h : Nat) (hh : head t k = (h : Int)) : inN t (k + 1) = addTo (inN t k) h k := by
  funext j
  unfold inN addTo
  by_cases e : j = h
  · subst e; rw [if_pos rfl, ups_hit (by simp [inP, hh])]
  · rw [if_neg e, ups_miss (by simp [inP, hh]; omega)]
theorem Fan.below {w w1 : World} {B g n cap : Nat} {vl : List Value} {L : Nat → List Int} {o : Obj} {v v' : Value} {h : Nat} (F : Fan w B g n cap vl L) (hv : vl[h]? = some v) (hB : B ≤ w.heap.size) (hg : (w.alloc o).grownBy w1 v.ownBlock) :
    Below B w (w1.setCell ⟨g, h, none⟩ v') :=
  (((Below.refl B w).alloc hB o).grown hg (by simp; omega) (fun k hk => ((F.own h v hv).1.lt k hk).1)).setCell (p := ⟨g, h, none⟩) F.lt.1 _
theorem sliceInfo : (Try.prog.info? 58).map (fun i => (i.zero, i.size, i.bytes)) = some (some (.slice none 0 0), 1, 24) := by kernel_rfl
/-- What Entering returns. -/
def RetFan (w : World) (t : Topo) (e : Ending) (w' : World) : Prop :=
  ∃ (g n cap : Nat) (vl : List Value), ((n : Nat) : Int) = t.n ∧ e = .returned (.slice (some ⟨g, 0, none⟩) n cap) ∧ Fan w' (w.heap.size + 1) g n cap vl (inN t (2 * t.ls.length)) ∧ Below w.heap.size w w'
theorem head_bd {t : Topo} (hv : valid t = true) {a : Int} (h0 : 0 ≤ a) (h1 : a < 2 * (t.ls.length : Int)) : 0 ≤ head t a ∧ head t a < t.n := by
  have := lnk_bd (valid_lnk hv (lnk_at h0 h1).2)
  unfold head
  split <;> omega
set_option maxHeartbeats 1000000 in
theorem graph_Entering (t : Topo) (A1 A2 : Option Addr) (c1 c2 : Nat) (w : World) (hT : TAt w A1 A2 t) (hn : t.ls.length ≤ 100000) (hv : valid t = true) :
    Calls Try.prog 71 #[.agg #[.int .i64 t.n, .slice A1 t.ov.length c1, .slice A2 t.ls.length c2]] w (RetFan w t) := by
  obtain ⟨i0, hi, hz0, hz1, hz2⟩ := info_parts intInfo
  obtain ⟨j0, hj, hy0, hy1, hy2⟩ := info_parts sliceInfo
  have hX := TBox.start c1 c2 hT
  have HT0 := Lib.hid hT
  obtain ⟨hn1, hn2⟩ := valid_n hv
  obtain ⟨m, hm⟩ : ∃ m : Nat, t.n = (m : Int) := ⟨t.n.toNat, by omega⟩
  have HM := Lib.hid hm
  have HV := Lib.hid hv
  have b0 := hX.b0
  have b1 := hX.b1
  have b2 := hX.b2
  have HX := Lib.hid hX
  rw [hm] at hn1 hn2
  clear hX hT hv hm
  go_enter Try.func71, Try.ntmps71
  go_wp2_with (first | (at_make; refine wpList_make_full _ rfl _ _ 120 rfl (w.heap.size + 1) 58 j0 (.slice none 0 0) 1 Try.underlying120 hj hy0 hy1 .i64 .i64 t.n t.n m rfl rfl HM.out HM.out ?d1 ?d2 ?d3 ?_))
  case d1 => rw [hy2]; omega
  case d2 => unfold maxLen; omega
  case d3 => simp
  intro w1 hown hgrow
  have F0 := Fan.start hown (toList_madeCells_one _ _)
  have hb1 : Below (w.alloc (.cells #[.int .i64 t.n, .slice A1 t.ov.length c1, .slice A2 t.ls.length c2] 25)).heap.size (w.alloc (.cells #[.int .i64 t.n, .slice A1 t.ov.length c1, .slice A2 t.ls.length c2] 25)) w1 := (Below.refl _ _).grown hgrow (Nat.le_refl _) (by simp)
  replace HX := Lib.hid (HX.out.up hb1)
  replace b0 := HX.out.b0
  replace b1 := HX.out.b1
  replace b2 := HX.out.b2
  have HF := Lib.hid F0
  clear hown hgrow F0 hb1
  go_wp2_with (go_at_call 30; refine (graph_Arcs _ _ _ _ _ _ hn).mono ?_; rintro e w2 ⟨rfl, hb2⟩)
  replace HX := Lib.hid (HX.out.up hb2)
  replace HF := Lib.hid (HF.out.up hb2)
  clear b0 b1 b2 hb2
  go_loopw [11] (fun i wr => ∃ (k : Nat) (vl : List Value), k ≤ 2 * t.ls.length ∧ i = .int .i64 k ∧ Hid (Fan wr (w.heap.size + 1) (w.heap.size + 1) m m vl (inN t k)) ∧ Hid (TBox w A1 A2 c1 c2 t wr)) (fun i _ => 2 * t.ls.length - (intOf i).toNat)
  case atStart => exact ⟨0, _, Nat.zero_le _, rfl, HF, HX⟩
  case round =>
    clear HX HF
    obtain ⟨k, vl, hk, rfl, HF, HX⟩ := hrel
    have b0 := HX.out.b0
    have b1 := HX.out.b1
    have b2 := HX.out.b2
    by_cases hlt : k < 2 * t.ls.length
    · have hlt' : (k : Int) < 2 * (t.ls.length : Int) := by omega
      have hul := ups_le (inP t (head t k)) k
      obtain ⟨h, hh⟩ : ∃ h : Nat, head t k = (h : Int) := ⟨(head t k).toNat, by have := head_bd HV.out (a := k) (by omega) hlt'; omega⟩
      have hhm : h < m := by have := head_bd HV.out (a := k) (by omega) hlt'; have := HM.out; omega
      rw [hh] at hul
      have HH := Lib.hid hh
      clear hh
      have hhm' : (h : Int) < (m : Int) := by omega
      have hul' : (inN t k h).length ≤ k := hul
      clear hul
      go_wp2_with (first | (go_at_call 42; refine (graph_Head _ _ _ _ t _ _ HX.out.ta.ls (by omega) hlt' hn).mono ?_; rw [HH.out]; rintro e w3 ⟨rfl, hb3⟩; replace HX := Lib.hid (HX.out.up hb3); replace HF := Lib.hid (HF.out.up hb3); clear hb3 b0 b1 b2; obtain ⟨v, hv, hvc, hvo⟩ := HF.out.at_ hhm; have HVL := Lib.hid hv; have HVO := Lib.hid hvo; clear hv hvo) | (at_builtin; refine wpList_append_own_at _ rfl _ _ 58 rfl (w.heap.size + 1) 3 i0 (.int .i64 0) 1 8 Try.underlying58 hi hz0 hz1 hz2 rfl (by decide) v _ _ rfl (HVO.out.alloc _) ⟨_, 0, none⟩ 1 1 [.int .i64 k] rfl rfl (cell_one_new _ _ _) ?c2 ?c3 ?c4 ?c5 ?_))
      case c2 => intro u hu; simp at hu; subst hu; rfl
      case c3 => unfold maxLen; omega
      case c4 => omega
      case c5 => have := HF.out.lt; simp; omega
      intro v' w4 hown' hgrow _ hat
      have F1 := Lib.hid (HF.out.step HVL.out hown' hgrow (by simpa using hat))
      have F2 := Lib.hid (HF.out.below (v' := v') HVL.out (by have := HF.out.lt; omega) hgrow)
      have F3 := HF.out.mid HVL.out hgrow
      have q0 : w4.cell? ⟨w.heap.size + 1, h, none⟩ = some v := by
        rw [F3.cellAt h (by omega)]; exact HVL.out
      have q1 : w4.frozen? ⟨w.heap.size + 1, h, none⟩ = false := F3.frozenAt h
      have HS := Lib.hid hown'.2
      clear hown' hgrow hat F3
      obtain ⟨A', cp, rfl⟩ : ∃ A' cp, v' = .slice A' ((inN t k h).length + 1) cp := by
        rcases HS.out with ⟨_, h0⟩ | ⟨g, cp, cur, hv', _⟩
        · omega
        · exact ⟨_, _, hv'⟩
      go_wp2_with fail
      go_roundw
      case rel => exact ⟨k + 1, _, by omega, by go_num, Lib.hid (by rw [inN_next t k h HH.out]; exact F1.out), Lib.hid (keep_box HX.out F2.out HT0.out)⟩
      case measure => simp [intOf]; omega
    · obtain rfl : k = 2 * t.ls.length := by omega
      go_wp2_with fail
      go_ret
      exact ⟨_, _, _, _, HM.out.symm, rfl, HF.out, HX.out.hb⟩
/-- What the loads of a drawn region read, and what the calls need. -/
theorem TBox.keep {w w' : World} {A1 A2 : Option Addr} {c1 c2 : Nat} {t : Topo} (h : Hid (TBox w A1 A2 c1 c2 t w')) :
    w'.cell? ⟨w.heap.size, 0, none⟩ = some (.int .i64 t.n) ∧ w'.cell? ⟨w.heap.size, 1, none⟩ = some (.slice A1 t.ov.length c1) ∧ w'.cell? ⟨w.heap.size, 2, none⟩ = some (.slice A2 t.ls.length c2) ∧ Hid (TBox w A1 A2 c1 c2 t w') :=
  ⟨h.out.b0, h.out.b1, h.out.b2, h⟩
end Go.Proofs.Ytdnjflpmbnjgeaa
namespace Go.Proofs.Ytdnjflpmbnjgeaa
set_option linter.unusedSimpArgs false
set_option linter.unusedVariables false
open Go.RowKit Go.Sort
/-- A queue at block hb: keys in kb, places in pb, the held items in the row v. -/
structure HeapR (B hb N kb pb : Nat) (v : Value) (ks ps os : List Int) (w : World) : Prop where
  h : Bl 141 hb #[.slice (some ⟨kb, 0, none⟩) N N, .slice (some ⟨pb, 0, none⟩) N N, v] w
  k : w.ownsRow B 3 1 (.slice (some ⟨kb, 0, none⟩) N N) N (ks.map (Value.int .i64))
  p : w.ownsRow B 3 1 (.slice (some ⟨pb, 0, none⟩) N N) N (ps.map (Value.int .i64))
  o : w.ownsRow B 3 1 v os.length (os.map (Value.int .i64))
  ne : kb ≠ pb ∧ kb ≠ hb ∧ pb ≠ hb ∧ v.ownBlock ≠ some kb ∧ v.ownBlock ≠ some pb ∧ v.ownBlock ≠ some hb ∧ B ≤ hb
theorem HeapR.up {B hb N kb pb : Nat} {v : Value} {ks ps os : List Int} {w w' : World} (h : HeapR B hb N kb pb v ks ps os w) (hb' : Below w.heap.size w w') : HeapR B hb N kb pb v ks ps os w' :=
  ⟨h.h.up hb', own_up h.k hb', own_up h.p hb', own_up h.o hb', h.ne⟩
theorem HeapR.kB {B hb N kb pb : Nat} {v : Value} {ks ps os : List Int} {w : World} (h : HeapR B hb N kb pb v ks ps os w) : B ≤ kb := (h.k.lt kb rfl).1
theorem HeapR.pB {B hb N kb pb : Nat} {v : Value} {ks ps os : List Int} {w : World} (h : HeapR B hb N kb pb v ks ps os w) : B ≤ pb := (h.p.lt pb rfl).1
/-- A store below the queue's blocks. -/
theorem HeapR.far {B hb N kb pb b : Nat} {v : Value} {ks ps os : List Int} {w : World} (h : HeapR B hb N kb pb v ks ps os w) (hf : b < B) (j : Nat) (u : Value) : HeapR B hb N kb pb v ks ps os (w.setCell ⟨b, j, none⟩ u) := by
  have h1 := h.kB
  have h2 := h.pB
  have h3 := h.ne.2.2.2.2.2.2
  exact ⟨h.h.other (by omega) _, own_setCell h.k (by simp [Value.ownBlock]; omega) _, own_setCell h.p (by simp [Value.ownBlock]; omega) _, own_setCell h.o (fun e => by have := (h.o.lt b e).1; omega) _, h.ne⟩
/-- An element of a row of ints, and a store into it. -/
theorem own_int {w : World} {base g n c k : Nat} {E : TypeId} {xs : List Int} (ho : w.ownsRow base E 1 (.slice (some ⟨g, 0, none⟩) n c) n (xs.map (Value.int .i64))) (hk : k < n) :
    w.cell? ⟨g, k, none⟩ = some (.int .i64 (xs.getD k 0)) ∧ w.frozen? ⟨g, k, none⟩ = false := by
  have hl : xs.length = n := by have := ho.1; simpa using this
  refine ⟨?_, ho.frozenAt k⟩
  rw [ho.cellAt k (by omega)]
  simp [List.getD_eq_getElem?_getD, List.getElem?_eq_getElem (show k < xs.length by omega)]
theorem own_put {w : World} {base g n c k : Nat} {E : TypeId} {xs : List Int} (ho : w.ownsRow base E 1 (.slice (some ⟨g, 0, none⟩) n c) n (xs.map (Value.int .i64))) (x : Int) :
    (w.setCell ⟨g, k, none⟩ (.int .i64 x)).ownsRow base E 1 (.slice (some ⟨g, 0, none⟩) n c) n ((xs.set k x).map (Value.int .i64)) := by
  rw [List.map_set]
  simpa using (ho.stored k (.int .i64 x)).1
theorem own_at {w : World} {base n : Nat} {E : TypeId} {v : Value} {xs : List Value} (ho : w.ownsRow base E 1 v n xs) (hn : 0 < n) : ∃ g c, v = .slice (some ⟨g, 0, none⟩) n c ∧ n ≤ c ∧ base ≤ g := by
  rcases ho with ⟨hl, ⟨rfl, h1⟩ | ⟨g, cap, cur, rfl, hb, hg, hnc, hcm, hs, ht⟩⟩
  · omega
  · exact ⟨g, cap, rfl, hnc, hb⟩
/-- Does the item at p come before the one at q? -/
def bef (ks os : List Int) (p q : Nat) : Bool :=
  if ks.getD (os.getD p 0).toNat 0 = ks.getD (os.getD q 0).toNat 0 then decide (os.getD p 0 < os.getD q 0) else decide (ks.getD (os.getD p 0).toNat 0 < ks.getD (os.getD q 0).toNat 0)
section
variable {B hb N kb pb : Nat} {v : Value} {ks ps os : List Int} {w : World}
theorem heap_idx (h : HP N ks ps os) (H : HeapR B hb N kb pb v ks ps os w) {p : Nat} (hp : p < os.length) : 0 ≤ os.getD p 0 ∧ os.getD p 0 < (N : Int) ∧ w.cell? ⟨kb, (os.getD p 0).toNat, none⟩ = some (.int .i64 (ks.getD (os.getD p 0).toNat 0)) := by
  have ha := h.a p _ (getD_some hp)
  exact ⟨ha.1, ha.2.1, (own_int H.k (k := (os.getD p 0).toNat) (by omega)).1⟩
set_option maxRecDepth 100000 in
set_option maxHeartbeats 2000000 in
theorem heap_before (p q : Nat) (hN : N ≤ 65536) (h : HP N ks ps os) (H : HeapR B hb N kb pb v ks ps os w) (hp : p < os.length) (hq : q < os.length) :
    Calls Try.prog 85 #[.pointer (some ⟨hb, 0, none⟩), .int .i64 p, .int .i64 q] w fun e w' => e = .returned (.bool (bef ks os p q)) ∧ Below w.heap.size w w' := by
  obtain ⟨h0, h1, h2, hf⟩ := H.h.c3
  obtain ⟨g, c, rfl, hc, hg⟩ := own_at H.o (by omega)
  have ip := (own_int H.o hp).1
  have iq := (own_int H.o hq).1
  obtain ⟨p1, p2, p3⟩ := heap_idx h H hp
  obtain ⟨q1, q2, q3⟩ := heap_idx h H hq
  have hp' : (p : Int) < (os.length : Int) := by omega
  have hq' : (q : Int) < (os.length : Int) := by omega
  have HBF : Hid (bef ks os p q = if ks.getD (os.getD p 0).toNat 0 = ks.getD (os.getD q 0).toNat 0 then decide (os.getD p 0 < os.getD q 0) else decide (ks.getD (os.getD p 0).toNat 0 < ks.getD (os.getD q 0).toNat 0)) := Lib.hid rfl
  generalize os.getD p 0 = i at *
  generalize os.getD q 0 = j at *
  generalize ks.getD i.toNat 0 = ki at *
  generalize ks.getD j.toNat 0 = kj at *
  generalize os.length = m at *
  clear h H hf hp hq hc hg
  by_cases e : ki = kj
  · have hne : (ki != kj) = false := by simp [e]
    have HE := Lib.hid e
    clear e
    go_enter Try.func85, Try.ntmps85
    go_wp2_with fail
    have kq_h0 := cell_regrown h0
    have kq_h2 := cell_regrown h2
    have kq_p3 := cell_regrown p3
    have kq_q3 := cell_regrown q3
    have kq_ip := cell_regrown ip
    have kq_iq := cell_regrown iq
    refine wp_region_quiet_below (by kernel_rfl) (by kernel_rfl) ?_
    repeat (go_big_quiet_step (fail))
    refine wpQuiet_nil ?_
    intro w2 hb2
    replace hb2 := below_of_regrown hb2
    clear kq_h0 kq_h2 kq_p3 kq_q3 kq_ip kq_iq
    replace h0 := cell_up hb2 h0
    replace h2 := cell_up hb2 h2
    replace p3 := cell_up hb2 p3
    replace q3 := cell_up hb2 q3
    replace ip := cell_up hb2 ip
    replace iq := cell_up hb2 iq
    go_wp2_with fail
    have kq_h0 := cell_regrown h0
    have kq_p3 := cell_regrown p3
    have kq_q3 := cell_regrown q3
    refine wp_region_quiet_below (by kernel_rfl) (by kernel_rfl) ?_
    repeat (go_big_quiet_step (fail))
    refine wpQuiet_nil ?_
    intro w3 hb3
    replace hb3 := below_of_regrown hb3
    clear kq_h0 kq_p3 kq_q3
    replace h0 := cell_up hb3 h0
    replace p3 := cell_up hb3 p3
    replace q3 := cell_up hb3 q3
    go_wp2_with fail
    go_ret
    exact ⟨by rw [HBF.out, if_pos HE.out]; rfl, hb2.trans (hb3.mono hb2.size)⟩
  · have hne : (ki != kj) = true := by simp [e]
    have HE := Lib.hid e
    clear e
    go_enter Try.func85, Try.ntmps85
    go_wp2_with fail
    have kq_h0 := cell_regrown h0
    have kq_h2 := cell_regrown h2
    have kq_p3 := cell_regrown p3
    have kq_q3 := cell_regrown q3
    have kq_ip := cell_regrown ip
    have kq_iq := cell_regrown iq
    refine wp_region_quiet_below (by kernel_rfl) (by kernel_rfl) ?_
    repeat (go_big_quiet_step (fail))
    refine wpQuiet_nil ?_
    intro w2 hb2
    replace hb2 := below_of_regrown hb2
    clear kq_h0 kq_h2 kq_p3 kq_q3 kq_ip kq_iq
    replace h0 := cell_up hb2 h0
    replace h2 := cell_up hb2 h2
    replace p3 := cell_up hb2 p3
    replace q3 := cell_up hb2 q3
    replace ip := cell_up hb2 ip
    replace iq := cell_up hb2 iq
    go_wp2_with fail
    have kq_h0 := cell_regrown h0
    have kq_p3 := cell_regrown p3
    have kq_q3 := cell_regrown q3
    refine wp_region_quiet_below (by kernel_rfl) (by kernel_rfl) ?_
    repeat (go_big_quiet_step (fail))
    refine wpQuiet_nil ?_
    intro w3 hb3
    replace hb3 := below_of_regrown hb3
    clear kq_h0 kq_p3 kq_q3
    replace h0 := cell_up hb3 h0
    replace p3 := cell_up hb3 p3
    replace q3 := cell_up hb3 q3
    go_wp2_with fail
    have kq_h0 := cell_regrown h0
    have kq_p3 := cell_regrown p3
    have kq_q3 := cell_regrown q3
    refine wp_region_quiet_below (by kernel_rfl) (by kernel_rfl) ?_
    repeat (go_big_quiet_step (fail))
    refine wpQuiet_nil ?_
    intro w4 hb4
    replace hb4 := below_of_regrown hb4
    clear kq_h0 kq_p3 kq_q3
    replace h0 := cell_up hb4 h0
    replace p3 := cell_up hb4 p3
    replace q3 := cell_up hb4 q3
    go_wp2_with fail
    go_ret
    exact ⟨by rw [HBF.out, if_neg HE.out]; rfl, (hb2.trans (hb3.mono hb2.size)).trans (hb4.mono (Nat.le_trans hb2.size hb3.size))⟩
theorem q1_set {b o b' o' : Nat} {x u : Value} {w : World} (hb : b' ≠ b) (h : w.cell? ⟨b, o, none⟩ = some x) : (w.setCell ⟨b', o', none⟩ u).cell? ⟨b, o, none⟩ = some x := by
  rw [World.cell?_setCell_other w _ _ _ (fun e => hb (by injection e))]; exact h
end
end Go.Proofs.Ytdnjflpmbnjgeaa
