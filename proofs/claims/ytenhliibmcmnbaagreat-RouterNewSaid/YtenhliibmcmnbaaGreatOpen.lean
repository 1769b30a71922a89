/-
  From 'the arguments read as data' to what the walks ask: integers, lists of integers, bools, links; topologies.
-/
import Derived.Test.YtenhliibmcmnbaaGreatBase
import Derived.Deep.Slices
import Derived.OpenShut
import Derived.ProofKit
import Derived.Lib.SmallJoins
namespace Go.Proofs.YtenhliibmcmnbaaGreat
open Go.ChangeShapes Go.WideShapes Go.ChangeAt Go.RowKit Go.Deep Go.Joins Go.OpenShut

section
variable {H : Type} {enc : TypeId × Value → H} {P : Program} {w : World} {base : Nat} {spare : Nat → Bool} {held : Bool}

/-- A slice opened to a list: 'dec x' are the cells of an element x. -/
theorem open_list {α : Type} {t e : TypeId} {size fuel : Nat} {cs : List Value} {x : DataW H × List MemPlace} (dec : α → List Value) (Good : α → Prop) (ht : P.underlying t = some (.slice e)) (hC : P.cellsOf e = size) (hpos : 0 < size)
    (hdec : ∀ n cs y, DataW.trod enc P w base spare held n e cs = some y → ∃ z : α, cs = dec z ∧ Good z)
    (h : DataW.trod enc P w base spare held fuel t cs = some x) :
    ∃ (A : Option Addr) (cap : Nat) (zs : List α), cs = [.slice A zs.length cap] ∧ zs.length ≤ maxLen ∧ (∀ z ∈ zs, Good z) ∧ zs.length ≤ cap ∧ cap ≤ maxLen ∧
      (zs = [] ∨ ∃ b o, A = some ⟨b, o, none⟩ ∧ ∀ k z, zs[k]? = some z → ∀ j v, (dec z)[j]? = some v → w.cell? ⟨b, o + k * size + j, none⟩ = some v) := by
  rcases open_slice ht h with ⟨rfl, _⟩ | ⟨a, len, cap, m, n, D, Pl, rfl, hb, hl, hm, hmm, hx, hi⟩
  · exact ⟨none, 0, [], rfl, Nat.zero_le _, by simp, Nat.le_refl _, Nat.zero_le _, .inl rfl⟩
  · have hle : len ≤ m := by rw [hmm]; split <;> omega
    have hz : ∀ i, i < len → ∃ z : α, w.cells? base (a.add (i * size)) size = some (dec z) ∧ Good z := by
      intro i hlt
      obtain ⟨cs', hc, htr⟩ := hi i (by omega)
      obtain ⟨z, rfl, hg⟩ := hdec _ _ _ htr
      rw [hC] at hc
      exact ⟨z, hc, hg⟩
    obtain ⟨zs, hzl, hzs⟩ : ∃ zs : List α, zs.length = len ∧ ∀ i z, zs[i]? = some z → w.cells? base (a.add (i * size)) size = some (dec z) ∧ Good z := by
      clear hi hx hle hmm hl h
      induction len with
      | zero => exact ⟨[], rfl, by simp⟩
      | succ l ih =>
        obtain ⟨zs, h1, h2⟩ := ih (fun i hi => hz i (by omega))
        obtain ⟨z, h3⟩ := hz l (by omega)
        refine ⟨zs ++ [z], by simp [h1], fun i y hy => ?_⟩
        by_cases hil : i < zs.length
        · rw [List.getElem?_append_left hil] at hy
          exact h2 i y hy
        · rw [List.getElem?_append_right (by omega)] at hy
          have : i - zs.length = 0 := by
            rcases Nat.eq_zero_or_pos (i - zs.length) with h | h
            · exact h
            · rw [List.getElem?_eq_none (by simp; omega)] at hy; cases hy
          rw [this] at hy
          simp only [List.getElem?_cons_zero, Option.some.injEq] at hy
          subst hy
          obtain rfl : i = l := by omega
          exact h3
    subst hzl
    refine ⟨some a, cap, zs, rfl, by omega, fun z hz' => ?_, hl, hm, ?_⟩
    · obtain ⟨i, hlt, rfl⟩ := List.getElem_of_mem hz'
      exact (hzs i _ (List.getElem?_eq_getElem hlt)).2
    · cases zs with
      | nil => exact .inl rfl
      | cons z0 zs' =>
        right
        have h0 := (hzs 0 z0 rfl).1
        obtain ⟨_, hl0, hc0⟩ := World.cells?_some h0
        have hc00 := hc0 0 hpos
        rw [List.getElem?_eq_getElem (by omega)] at hc00
        obtain ⟨b, o, sp⟩ := a
        have hsp : sp = none := by simpa [Addr.add] using World.cell?_spot hc00
        subst hsp
        refine ⟨b, o, rfl, fun k z hk j v hj => ?_⟩
        obtain ⟨_, hl1, hc1⟩ := World.cells?_some (hzs k z hk).1
        have hjl : j < size := by
          have := (List.getElem?_eq_some_iff.1 hj).1
          omega
        have := hc1 j hjl
        rw [hj] at this
        rw [← this]
        congr 1
        unfold Addr.add
        by_cases e1 : k * size = 0 <;> by_cases e2 : j = 0 <;> simp [e1, e2, Nat.add_assoc]

theorem wf64 {n : Int} (h : (Lit.int .i64 n).wf = true) : -9223372036854775808 ≤ n ∧ n ≤ 9223372036854775807 := by
  exact bounds_i64 h

theorem open_i64 {r : Reach} {b0 : Nat} {t : TypeId} {v : Value} {d : DataW H} {p : List MemPlace} (ht : P.underlying t = some (.int .i64)) (hv : Value.okWide P w r b0 t v) (h : DataW.Trod enc P w base spare held t v d p) :
    ∃ n, v = .int .i64 n ∧ -9223372036854775808 ≤ n ∧ n ≤ 9223372036854775807 := by
  obtain ⟨n, rfl, _, _, wn⟩ := open_int ht hv h
  exact ⟨n, rfl, wf64 wn⟩

theorem open_u8 {r : Reach} {b0 : Nat} {t : TypeId} {v : Value} {d : DataW H} {p : List MemPlace} (ht : P.underlying t = some (.int .u8)) (hv : Value.okWide P w r b0 t v) (h : DataW.Trod enc P w base spare held t v d p) :
    ∃ n, v = .int .u8 n ∧ 0 ≤ n ∧ n ≤ 255 := by
  obtain ⟨n, rfl, _, _, wn⟩ := open_int ht hv h
  exact ⟨n, rfl, bounds_u8 wn⟩

/-- A slice of ints. -/
theorem open_ints64 {r : Reach} {b0 : Nat} {t e : TypeId} {v : Value} {d : DataW H} {p : List MemPlace} (ht : P.underlying t = some (.slice e)) (he : P.underlying e = some (.int .i64)) (hC : P.cellsOf e = 1) (hv : Value.okWide P w r b0 t v) (h : DataW.Trod enc P w base spare held t v d p) :
    ∃ (A : Option Addr) (cap : Nat) (xs : List Int), v = .slice A xs.length cap ∧ xs.length ≤ cap ∧ cap ≤ maxLen ∧ (∀ x ∈ xs, -9223372036854775808 ≤ x ∧ x ≤ 9223372036854775807) ∧ Rd w A (xs.map (Value.int .i64)) := by
  obtain ⟨A, l, c, rfl⟩ := okWide_slice ht hv
  obtain ⟨fuel, hf⟩ := h
  obtain ⟨A', cap, zs, hcs, _, hg, hlc, hcm, hc⟩ := open_list (α := Int) (fun z => [.int .i64 z]) (fun z => -9223372036854775808 ≤ z ∧ z ≤ 9223372036854775807) ht hC (by omega)
    (fun n cs y hy => by obtain ⟨z, rfl, _, hw⟩ := DataW.trod_int he hy; exact ⟨z, rfl, wf64 hw⟩) hf
  simp only [Value.cells, List.cons.injEq, Value.slice.injEq, and_true] at hcs
  obtain ⟨rfl, rfl, rfl⟩ := hcs
  refine ⟨A, c, zs, rfl, hlc, hcm, hg, ?_⟩
  rcases hc with rfl | ⟨b, o, rfl, hc⟩
  · exact .inl rfl
  · refine .inr ⟨b, o, rfl, fun j u hu => ?_⟩
    rw [List.getElem?_map] at hu
    obtain ⟨z, hz, rfl⟩ := Option.map_eq_some_iff.1 hu
    simpa using hc j z hz 0 _ rfl

theorem open_boolsF {t e : TypeId} {fuel : Nat} {v : Value} {x : DataW H × List MemPlace} (ht : P.underlying t = some (.slice e)) (he : P.underlying e = some .bool) (hC : P.cellsOf e = 1) (hf : DataW.trod enc P w base spare held fuel t [v] = some x) :
    ∃ (A : Option Addr) (cap : Nat) (xs : List Bool), v = .slice A xs.length cap ∧ xs.length ≤ cap ∧ cap ≤ maxLen ∧ Rd w A (xs.map Value.bool) := by
  obtain ⟨A', cap, zs, hcs, _, _, hlc, hcm, hc⟩ := open_list (α := Bool) (fun z => [.bool z]) (fun _ => True) ht hC (by omega)
    (fun n cs y hy => by obtain ⟨z, rfl, _⟩ := DataW.trod_bool he hy; exact ⟨z, rfl, trivial⟩) hf
  simp only [List.cons.injEq, and_true] at hcs
  refine ⟨A', cap, zs, hcs, hlc, hcm, ?_⟩
  rcases hc with rfl | ⟨b, o, rfl, hc⟩
  · exact .inl rfl
  · refine .inr ⟨b, o, rfl, fun j u hu => ?_⟩
    rw [List.getElem?_map] at hu
    obtain ⟨z, hz, rfl⟩ := Option.map_eq_some_iff.1 hu
    simpa using hc j z hz 0 _ rfl
end

def lnkCells (l : Lnk) : List Value := [.int .i64 l.a, .int .i64 l.b, .int .i64 l.c0, .int .i64 l.c1, .int .i64 l.cap, .int .i64 l.dl, .int .i64 l.g]
def I64 (n : Int) : Prop := -9223372036854775808 ≤ n ∧ n ≤ 9223372036854775807
structure LnkIn (l : Lnk) : Prop where
  a : I64 l.a
  b : I64 l.b
  c0 : I64 l.c0
  c1 : I64 l.c1
  cap : I64 l.cap
  dl : I64 l.dl
  g : I64 l.g

section
variable {H : Type} {enc : TypeId × Value → H} {w : World} {base : Nat} {spare : Nat → Bool} {held : Bool}

theorem cells1 : Tryz.prog.cellsOf 3 = 1 := by kernel_rfl
theorem cells2 : Tryz.prog.cellsOf 26 = 2 := by kernel_rfl
theorem cells7 : Tryz.prog.cellsOf 118 = 7 := by kernel_rfl
set_option maxRecDepth 100000 in
theorem trod_link {n : Nat} {cs : List Value} {y : DataW H × List MemPlace} (h : DataW.trod enc Tryz.prog w base spare held n 118 cs = some y) : ∃ l : Lnk, cs = lnkCells l ∧ LnkIn l := by
  obtain ⟨ys, m, _, _, hl, hyl, hf⟩ := DataW.trod_struct Tryz.underlying118 h
  rw [cells7] at hl
  match cs, hl with
  | [v0, v1, v2, v3, v4, v5, v6], _ =>
    have f0 := hf 0 _ rfl
    simp [cells1] at f0
    have f1 := hf 1 _ rfl
    simp [cells1] at f1
    have f2 := hf 2 _ rfl
    simp [cells2] at f2
    have f3 := hf 3 _ rfl
    simp [cells1] at f3
    have f4 := hf 4 _ rfl
    simp [cells1] at f4
    have f5 := hf 5 _ rfl
    simp [cells1] at f5
    match ys, hyl with
    | [y0, y1, y2, y3, y4, y5], _ =>
      obtain ⟨a, e0, _, wa⟩ := DataW.trod_int Tryz.underlying3 f0
      obtain ⟨b, e1, _, wb⟩ := DataW.trod_int Tryz.underlying3 f1
      obtain ⟨zs, m2, _, _, _, hzl, hg⟩ := DataW.trod_array Tryz.underlying26 f2
      have g0 := hg 0 (by omega)
      have g1 := hg 1 (by omega)
      simp [cells1] at g0 g1
      match zs, hzl with
      | [z0, z1], _ =>
        obtain ⟨c0, e2, _, wc0⟩ := DataW.trod_int Tryz.underlying3 g0
        obtain ⟨c1, e3, _, wc1⟩ := DataW.trod_int Tryz.underlying3 g1
        obtain ⟨c, e4, _, wc⟩ := DataW.trod_int Tryz.underlying3 f3
        obtain ⟨d, e5, _, wd⟩ := DataW.trod_int Tryz.underlying3 f4
        obtain ⟨g, e6, _, wg⟩ := DataW.trod_int Tryz.underlying3 f5
        simp only [List.cons.injEq, and_true] at e0 e1 e2 e3 e4 e5 e6
        subst e0 e1 e2 e3 e4 e5 e6
        exact ⟨⟨a, b, c0, c1, c, d, g⟩, rfl, ⟨wf64 wa, wf64 wb, wf64 wc0, wf64 wc1, wf64 wc, wf64 wd, wf64 wg⟩⟩

set_option maxRecDepth 100000 in
theorem open_linksF {fuel : Nat} {v : Value} {x : DataW H × List MemPlace} (hf : DataW.trod enc Tryz.prog w base spare held fuel 23 [v] = some x) :
    ∃ (A : Option Addr) (cap : Nat) (ls : List Lnk), v = .slice A ls.length cap ∧ ls.length ≤ cap ∧ cap ≤ maxLen ∧ (∀ l ∈ ls, LnkIn l) ∧ RdL w A ls := by
  obtain ⟨A', cap, zs, hcs, _, hg, hlc, hcm, hc⟩ := open_list (α := Lnk) lnkCells LnkIn Tryz.underlying23 cells7 (by omega) (fun n cs y hy => trod_link hy) hf
  simp only [List.cons.injEq, and_true] at hcs
  refine ⟨A', cap, zs, hcs, hlc, hcm, hg, ?_⟩
  rcases hc with rfl | ⟨b, o, rfl, hc⟩
  · exact .inl rfl
  · exact .inr ⟨b, o, rfl, fun k l hl => ⟨hc k l hl 0 _ rfl, hc k l hl 1 _ rfl, hc k l hl 2 _ rfl, hc k l hl 3 _ rfl, hc k l hl 4 _ rfl, hc k l hl 5 _ rfl, hc k l hl 6 _ rfl⟩⟩

theorem cells3 : Tryz.prog.cellsOf 25 = 3 := by kernel_rfl
theorem cellsB : Tryz.prog.cellsOf 4 = 1 := by kernel_rfl

set_option maxRecDepth 100000 in
/-- A topology that came in. -/
theorem open_topo {r : Reach} {b0 : Nat} {v : Value} {d : DataW H} {p : List MemPlace} (hv : Value.okWide Tryz.prog w r b0 25 v) (h : DataW.Trod enc Tryz.prog w base spare held 25 v d p) :
    ∃ (t : Topo) (A1 A2 : Option Addr) (c1 c2 : Nat), v = .agg #[.int .i64 t.n, .slice A1 t.ov.length c1, .slice A2 t.ls.length c2] ∧ TAt w A1 A2 t ∧ I64 t.n ∧ t.ov.length ≤ maxLen ∧ t.ls.length ≤ maxLen ∧ ∀ l ∈ t.ls, LnkIn l := by
  obtain ⟨v0, v1, v2, y0, y1, y2, n, rfl, _, _, h0, h1, h2⟩ := open_agg3 Tryz.underlying25 (by kernel_rfl) cells3 hv h
  obtain ⟨a, e0, _, wa⟩ := DataW.trod_int Tryz.underlying3 h0
  obtain ⟨A1, c1, ov, rfl, ho1, ho2, hov⟩ := open_boolsF Tryz.underlying22 Tryz.underlying4 cellsB h1
  obtain ⟨A2, c2, ls, rfl, hl1, hl2, hlb, hls⟩ := open_linksF h2
  simp only [List.cons.injEq, and_true] at e0
  subst e0
  exact ⟨⟨a, ov, ls⟩, A1, A2, c1, c2, rfl, ⟨hov, hls⟩, wf64 wa, Nat.le_trans ho1 ho2, Nat.le_trans hl1 hl2, hlb⟩
end

end Go.Proofs.YtenhliibmcmnbaaGreat
