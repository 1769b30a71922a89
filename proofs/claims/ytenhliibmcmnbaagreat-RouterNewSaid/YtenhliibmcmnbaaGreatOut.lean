/-
  Lists of ints that a call makes: graph.Out, waypointref09.Out, In, SameInts, Has, topology.Out; what each returns, for every topology in memory.
-/
import Derived.Test.YtenhliibmcmnbaaGreatRef
import Derived.LoopTactic
namespace Go.Proofs.YtenhliibmcmnbaaGreat
open Go.RowKit Go.Sort

/-- A call that returns a list of ints; nothing that was there has changed. -/
def RetInts (w : World) (xs : List Int) (e : Ending) (w' : World) : Prop :=
  ∃ A c, e = .returned (.slice A xs.length c) ∧ xs.length ≤ c ∧ c ≤ maxLen ∧ Rd w' A (xs.map (Value.int .i64)) ∧ Below w.heap.size w w'

theorem rd_of_own {w : World} {base : Nat} {E : TypeId} {v : Value} {n : Nat} {xs : List Value} (h : w.ownsRow base E 1 v n xs) : ∃ A c, v = .slice A n c ∧ n ≤ c ∧ c ≤ maxLen ∧ Rd w A xs := by
  rcases h with ⟨hl, ⟨rfl, rfl⟩ | ⟨g, cap, cur, rfl, hb, hg, hnc, hcm, hs, ht⟩⟩
  · exact ⟨none, 0, rfl, Nat.le_refl _, Nat.zero_le _, .inl (List.eq_nil_of_length_eq_zero (by simpa using hl))⟩
  · refine ⟨some ⟨g, 0, none⟩, cap, rfl, hnc, hcm, .inr ⟨g, 0, rfl, fun j u hu => ?_⟩⟩
    have h0 : w.ownsRow base E 1 (.slice (some ⟨g, 0, none⟩) n cap) n xs := ⟨hl, .inr ⟨g, cap, cur, rfl, hb, hg, hnc, hcm, hs, ht⟩⟩
    have hj : j < n * 1 := by rw [← hl]; exact (List.getElem?_eq_some_iff.1 hu).1
    rw [Nat.zero_add, h0.cellAt j hj]; exact hu

theorem retInts_of {w w' : World} {base : Nat} {E : TypeId} {v : Value} {xs : List Int} (h : w'.ownsRow base E 1 v xs.length (xs.map (Value.int .i64))) (hb : Below w.heap.size w w') : RetInts w xs (.returned v) w' := by
  obtain ⟨A, c, rfl, h1, h2, h3⟩ := rd_of_own h
  exact ⟨A, c, rfl, h1, h2, h3, hb⟩
theorem retInts_nil {w w' : World} (hb : Below w.heap.size w w') : RetInts w [] (.returned (.slice none 0 0)) w' :=
  ⟨none, 0, rfl, Nat.le_refl _, Nat.zero_le _, .inl rfl, hb⟩
theorem RetInts.next {w0 w w' : World} {xs : List Int} {e : Ending} (h : RetInts w xs e w') (hb : Below w0.heap.size w0 w) : RetInts w0 xs e w' := by
  obtain ⟨A, c, h0, h1, h2, h3, h4⟩ := h
  exact ⟨A, c, h0, h1, h2, h3, below_next hb h4⟩

/-- The numbers below k that pass. -/
def ups (p : Int → Bool) : Nat → List Int
  | 0 => []
  | k + 1 => if p k = true then ups p k ++ [(k : Int)] else ups p k
theorem ups_le (p : Int → Bool) : ∀ k, (ups p k).length ≤ k
  | 0 => Nat.le_refl _
  | k + 1 => by
    have := ups_le p k
    unfold ups
    split
    · simp; omega
    · omega
theorem ups_hit {p : Int → Bool} {k : Nat} (h : p k = true) : ups p (k + 1) = ups p k ++ [(k : Int)] := by simp [ups, h]
theorem ups_miss {p : Int → Bool} {k : Nat} (h : p k = false) : ups p (k + 1) = ups p k := by simp [ups, h]
theorem mem_ups {p : Int → Bool} {x : Int} : ∀ {k : Nat}, x ∈ ups p k ↔ 0 ≤ x ∧ x < (k : Int) ∧ p x = true
  | 0 => by simp [ups]; intro h1 h2; omega
  | k + 1 => by
    have ih := @mem_ups p x k
    unfold ups
    by_cases h : p k = true
    · rw [if_pos h, List.mem_append, ih, List.mem_singleton]
      constructor
      · rintro (⟨h1, h2, h3⟩ | rfl)
        · exact ⟨h1, by omega, h3⟩
        · exact ⟨by omega, by omega, h⟩
      · rintro ⟨h1, h2, h3⟩
        by_cases e : x = (k : Int)
        · exact .inr e
        · exact .inl ⟨h1, by omega, h3⟩
    · rw [if_neg h, ih]
      constructor
      · rintro ⟨h1, h2, h3⟩; exact ⟨h1, by omega, h3⟩
      · rintro ⟨h1, h2, h3⟩
        refine ⟨h1, ?_, h3⟩
        by_cases e : x = (k : Int)
        · subst e; exact absurd h3 h
        · omega
theorem ups_congr {p q : Int → Bool} : ∀ {k : Nat}, (∀ x : Int, 0 ≤ x → x < (k : Int) → p x = q x) → ups p k = ups q k
  | 0, _ => rfl
  | k + 1, h => by
    have ih := @ups_congr p q k (fun x h0 h1 => h x h0 (by omega))
    unfold ups
    rw [ih, h k (by omega) (by omega)]

def outP (t : Topo) (n : Int) (a : Int) : Bool := tail t a == n
def inP (t : Topo) (n : Int) (a : Int) : Bool := head t a == n
def outV (t : Topo) (n : Int) : List Int := ups (outP t n) (arcsV t).toNat
def inV (t : Topo) (n : Int) : List Int := ups (inP t n) (arcsV t).toNat

theorem arcsV_two {t : Topo} (hv : valid t = true) : (arcsV t).toNat = 2 * t.ls.length := by rw [arcsV_true hv]; omega

theorem TBox.start {w : World} {A1 A2 : Option Addr} {t : Topo} (c1 c2 : Nat) (hT : TAt w A1 A2 t) :
    TBox w A1 A2 c1 c2 t (w.alloc (.cells #[.int .i64 t.n, .slice A1 t.ov.length c1, .slice A2 t.ls.length c2] 25)) :=
  ⟨box0 .., box1 .., box2 .., hT.below (below_box ..), below_box ..⟩

theorem intInfo : (Tryz.prog.info? 3).map (fun i => (i.zero, i.size, i.bytes)) = some (some (.int .i64 0), 1, 8) := by kernel_rfl

/-- Below a bound that may lie above the box's block. -/
theorem keep_box {w wr w' : World} {A1 A2 : Option Addr} {c1 c2 : Nat} {t : Topo} (h : TBox w A1 A2 c1 c2 t wr) (hb : Below (w.heap.size + 1) wr w') (hT : TAt w A1 A2 t) : TBox w A1 A2 c1 c2 t w' := by
  have hb' : Below w.heap.size w w' := h.hb.trans (hb.mono (by omega))
  exact ⟨(hb.cell (by simp)).trans h.b0, (hb.cell (by simp)).trans h.b1, (hb.cell (by simp)).trans h.b2, hT.below hb', hb'⟩

theorem own_up {w w' : World} {base : Nat} {E : TypeId} {size : Nat} {v : Value} {n : Nat} {xs : List Value} (h : w.ownsRow base E size v n xs) (hb : Below w.heap.size w w') : w'.ownsRow base E size v n xs := by
  rcases h with ⟨hl, h0 | ⟨g, cap, cur, hv, hB, hg, rest⟩⟩
  · exact ⟨hl, .inl h0⟩
  · exact ⟨hl, .inr ⟨g, cap, cur, hv, hB, (hb.block g (Array.getElem?_eq_some_iff.1 hg).1).trans hg, rest⟩⟩

/-- One append of a number. -/
theorem own_next {B : Nat} {E : TypeId} {wr w1 : World} {v v' : Value} {xs : List Int} {o : Obj} {x : Int} (hown : wr.ownsRow B E 1 v xs.length (xs.map (Value.int .i64))) (hB : B ≤ wr.heap.size)
    (h1 : w1.ownsRow B E 1 v' (xs.length + 1) (xs.map (Value.int .i64) ++ [.int .i64 x])) (hg : (wr.alloc o).grownBy w1 v.ownBlock) :
    w1.ownsRow B E 1 v' (xs ++ [x]).length ((xs ++ [x]).map (Value.int .i64)) ∧ Below B wr w1 := by
  refine ⟨by simpa using h1, ?_⟩
  exact ((Below.refl B wr).alloc hB o).grown hg (by simp; omega) (fun k hk => (hown.lt k hk).1)

set_option maxHeartbeats 1000000 in
theorem graph_Out (t : Topo) (A1 A2 : Option Addr) (c1 c2 : Nat) (n : Int) (w : World) (hT : TAt w A1 A2 t) (hn : t.ls.length ≤ 100000) :
    Calls Tryz.prog 75 #[.agg #[.int .i64 t.n, .slice A1 t.ov.length c1, .slice A2 t.ls.length c2], .int .i64 n] w (RetInts w (ups (outP t n) (2 * t.ls.length))) := by
  obtain ⟨i0, hi, hz0, hz1, hz2⟩ := info_parts intInfo
  have hX := TBox.start c1 c2 hT
  have HT0 := Lib.hid hT
  have b0 := hX.b0
  have b1 := hX.b1
  have b2 := hX.b2
  have HX := Lib.hid hX
  clear hX hT
  go_enter Tryz.func75, Tryz.ntmps75
  go_wp2_with (go_at_call 56; refine (graph_Arcs _ _ _ _ _ _ hn).mono ?_; rintro e w1 ⟨rfl, hb1⟩)
  replace HX := Lib.hid (HX.out.up hb1)
  clear b0 b1 b2 hb1
  go_loopw [5, 9] (fun v i wr => ∃ k : Nat, k ≤ 2 * t.ls.length ∧ i = .int .i64 k ∧ wr.ownsRow (w.heap.size + 1) 3 1 v (ups (outP t n) k).length ((ups (outP t n) k).map (Value.int .i64)) ∧ Hid (TBox w A1 A2 c1 c2 t wr)) (fun _ i _ => 2 * t.ls.length - (intOf i).toNat)
  case atStart => exact ⟨0, Nat.zero_le _, rfl, World.ownsRow_nil _ _ _ _, HX⟩
  case round =>
    clear HX
    obtain ⟨k, hk, rfl, hown, HX⟩ := hrel
    have b0 := HX.out.b0
    have b1 := HX.out.b1
    have b2 := HX.out.b2
    have HO := Lib.hid hown
    clear hown
    by_cases hlt : k < 2 * t.ls.length
    · have hlt' : (k : Int) < 2 * (t.ls.length : Int) := by omega
      have hul := ups_le (outP t n) k
      cases hp : (tail t k == n) with
      | true =>
        have HP : Hid (outP t n k = true) := Lib.hid hp
        go_wp2_with (first | (go_at_call 94; refine (graph_Tail _ _ _ _ t _ _ HX.out.ta.ls (by omega) hlt' hn).mono ?_; rintro e w1 ⟨rfl, hb1⟩; replace HX := Lib.hid (HX.out.up hb1); replace HO := Lib.hid (own_up HO.out hb1); clear hb1 b0 b1 b2) | (at_builtin; refine wpList_append_own _ rfl _ _ 50 rfl (w.heap.size + 1) 3 i0 (.int .i64 0) 1 8 Tryz.underlying50 hi hz0 hz1 hz2 rfl (by decide) _ _ _ rfl (HO.out.alloc _) ⟨_, 0, none⟩ 1 1 [.int .i64 k] rfl rfl (cell_one_new _ _ _) ?c2 ?c3 ?c4 ?c5 ?_))
        case c2 => intro u hu; simp at hu; subst hu; rfl
        case c3 => unfold maxLen; omega
        case c4 => omega
        case c5 => have := block_lt_of_cell HX.out.b0; simp; simp at this; omega
        intro v' w2 hown' hgrow _
        have hsz : w.heap.size + 1 ≤ _ := block_lt_of_cell HX.out.b0
        have R := own_next HO.out hsz hown' hgrow
        rw [← ups_hit HP.out] at R
        have HR := Lib.hid R
        clear hown' hgrow R HO
        go_wp2_with fail
        go_roundw
        case rel => exact ⟨k + 1, by omega, by go_num, HR.out.1, Lib.hid (keep_box HX.out HR.out.2 HT0.out)⟩
        case measure => simp [intOf]; omega
      | false =>
        have HP : Hid (outP t n k = false) := Lib.hid hp
        go_wp2_with (go_at_call 94; refine (graph_Tail _ _ _ _ t _ _ HX.out.ta.ls (by omega) hlt' hn).mono ?_; rintro e w1 ⟨rfl, hb1⟩; replace HX := Lib.hid (HX.out.up hb1); replace HO := Lib.hid (own_up HO.out hb1); clear hb1 b0 b1 b2)
        go_roundw
        case rel => exact ⟨k + 1, by omega, by go_num, by rw [ups_miss HP.out]; exact HO.out, HX⟩
        case measure => simp [intOf]; omega
    · obtain rfl : k = 2 * t.ls.length := by omega
      go_wp2_with fail
      go_ret
      exact retInts_of HO.out HX.out.hb

theorem below_drw {B : Nat} {a w : World} (h : Below B a w) (n : Nat) : Below B a (w.drewN n) := h.trans ⟨rfl, rfl, rfl, Nat.le_refl _, fun _ _ => rfl⟩
/-- Equal lists. -/
def sameI (xs ys : List Int) : Bool := decide (xs = ys)
theorem sameI_len {xs ys : List Int} (h : ¬ xs.length = ys.length) : sameI xs ys = false := by
  simp [sameI]; intro e; exact h (by rw [e])
theorem sameI_at {xs ys : List Int} {k : Nat} {x y : Int} (h1 : xs[k]? = some x) (h2 : ys[k]? = some y) (h : x ≠ y) : sameI xs ys = false := by
  simp [sameI]; intro e; rw [e, h2] at h1; exact h (by injection h1 with h1; exact h1.symm)
theorem sameI_all {xs ys : List Int} (hl : xs.length = ys.length) (h : ∀ j, j < xs.length → xs[j]? = ys[j]?) : sameI xs ys = true := by
  simp only [sameI, decide_eq_true_eq]
  apply List.ext_getElem?
  intro j
  by_cases hj : j < xs.length
  · exact h j hj
  · rw [List.getElem?_eq_none (by omega), List.getElem?_eq_none (by omega)]
theorem sameI_refl (xs : List Int) : sameI xs xs = true := by simp [sameI]

theorem ints_at {w : World} {A : Option Addr} {xs : List Int} {k : Nat} (h : Rd w A (xs.map (Value.int .i64))) (hk : k < xs.length) : ∃ b o x, A = some ⟨b, o, none⟩ ∧ xs[k]? = some x ∧ w.cell? ⟨b, o + k, none⟩ = some (.int .i64 x) := by
  obtain ⟨b, o, hA, hc⟩ := h.at_ (k := k) (u := .int .i64 xs[k]) (by simp [List.getElem?_eq_getElem hk])
  exact ⟨b, o, xs[k], hA, List.getElem?_eq_getElem hk, hc⟩
theorem at_next {xs ys : List Int} {k : Nat} {x : Int} (h : ∀ j, j < k → xs[j]? = ys[j]?) (h1 : xs[k]? = some x) (h2 : ys[k]? = some x) : ∀ j, j < k + 1 → xs[j]? = ys[j]? := by
  intro j hj
  by_cases e : j = k
  · subst e; rw [h1, h2]
  · exact h j (by omega)

end Go.Proofs.YtenhliibmcmnbaaGreat
