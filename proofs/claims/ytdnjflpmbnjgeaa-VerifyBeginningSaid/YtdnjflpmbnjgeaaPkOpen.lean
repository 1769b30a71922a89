/-
  From 'the arguments read as data' to what the walks ask: integers, lists of integers, bools, links; topologies.
  From 'the arguments read as data' to what the walks ask: lists of events.
  From 'the arguments read as data' to what the walks ask: the law's case.
-/
import Derived.Test.YtdnjflpmbnjgeaaPkBase
import Derived.Deep.Slices
import Derived.OpenShut
import Derived.ProofKit
import Derived.Lib.SmallJoins
import Derived.Test.YtdnjflpmbnjgeaaPkEvent
import Derived.Test.YtdnjflpmbnjgeaaVl2
namespace Go.Proofs.Ytdnjflpmbnjgeaa
open Go.ChangeShapes Go.WideShapes Go.ChangeAt Go.RowKit Go.Deep Go.Joins Go.OpenShut
section
variable {H : Type} {enc : TypeId × Value → H} {P : Program} {w : World} {base : Nat} {spare : Nat → Bool} {held : Bool}
/-- A slice opened to a list: 'dec x' are the cells of an element x. -/
theorem open_list {α : Type} {t e : TypeId} {size fuel : Nat} {cs : List Value} {x : DataW H × List MemPlace} (dec : α → List Value) (Good : α → Prop) (ht : P.underlying t = some (.slice e)) (hC : P.cellsOf e = size) (hpos : 0 < size)
    (hdec : ∀ n cs y, DataW.trod enc P w base spare held n e cs = some y → ∃ z : α, cs = dec z ∧ Good z)
    (h : DataW.trod enc P w base spare held fuel t cs = some x) :
    ∃ (A : Option Addr) (cap : Nat) (zs : List α), cs = [.slice A zs.length cap] ∧ zs.length ≤ maxLen ∧ (∀ z ∈ zs, Good z) ∧ zs.length ≤ cap ∧ cap ≤ maxLen ∧
      (zs = [] ∨ ∃ b o, A = some ⟨b, o, none⟩ ∧ ∀ k z, zs[k]? = some z → ∀ j v, (dec z)[j]? = some v → w.cell? ⟨b, o + k * size + j, none⟩ = some v) := by
  rcases open_slice ht h with ⟨rfl, _⟩ | ⟨a, len, cap, m, n, D, Pl, rfl, hb, hl, hm, hmm, hx, hi⟩
  · exact ⟨none, 0, [], rfl, Nat.zero_le _, by simp, Nat.le_refl _, Nat.zero_le _, .inl rfl⟩
  · have hle : len ≤ m := by rw [hmm]; split <;> omega
    have hz : ∀ i, i < len → ∃ z : α, w.cells? base (a.add (i * size)) size = some (dec z) ∧ Good z := by
      intro i hlt
      obtain ⟨cs', hc, htr⟩ := hi i (by omega)
      obtain ⟨z, rfl, hg⟩ := hdec _ _ _ htr
      rw [hC] at hc
      exact ⟨z, hc, hg⟩
    obtain ⟨zs, hzl, hzs⟩ : ∃ zs : List α, zs.length = len ∧ ∀ i z, zs[i]? = some z → w.cells? base (a.add (i * size)) size = some (dec z) ∧ Good z := by
      clear hi hx hle hmm hl h
      induction len with
      | zero => exact ⟨[], rfl, by simp⟩
      | succ l ih =>
        obtain ⟨zs, h1, h2⟩ := ih (fun i hi => hz i (by omega))
        obtain ⟨z, h3⟩ := hz l (by omega)
        refine ⟨zs ++ [z], by simp [h1], fun i y hy => ?_⟩
        by_cases hil : i < zs.length
        · rw [List.getElem?_append_left hil] at hy
          exact h2 i y hy
        · rw [List.getElem?_append_right (by omega)] at hy
          have : i - zs.length = 0 := by
            rcases Nat.eq_zero_or_pos (i - zs.length) with h | h
            · exact h
            · rw [List.getElem?_eq_none (by simp; omega)] at hy; cases hy
          rw [this] at hy
          simp only [List.getElem?_cons_zero, Option.some.injEq] at hy
          subst hy
          obtain rfl : i = l := by omega
          exact h3
    subst hzl
    refine ⟨some a, cap, zs, rfl, by omega, fun z hz' => ?_, hl, hm, ?_⟩
    · obtain ⟨i, hlt, rfl⟩ := List.getElem_of_mem hz'
      exact (hzs i _ (List.getElem?_eq_getElem hlt)).2
    · cases zs with
      | nil => exact .inl rfl
      | cons z0 zs' =>
        right
        have h0 := (hzs 0 z0 rfl).1
        obtain ⟨_, hl0, hc0⟩ := World.cells?_some h0
        have hc00 := hc0 0 hpos
        rw [List.getElem?_eq_getElem (by omega)] at hc00
        obtain ⟨b, o, sp⟩ := a
        have hsp : sp = none := by simpa [Addr.add] using World.cell?_spot hc00
        subst hsp
        refine ⟨b, o, rfl, fun k z hk j v hj => ?_⟩
        obtain ⟨_, hl1, hc1⟩ := World.cells?_some (hzs k z hk).1
        have hjl : j < size := by
          have := (List.getElem?_eq_some_iff.1 hj).1
          omega
        have := hc1 j hjl
        rw [hj] at this
        rw [← this]
        congr 1
        unfold Addr.add
        by_cases e1 : k * size = 0 <;> by_cases e2 : j = 0 <;> simp [e1, e2, Nat.add_assoc]
theorem wf64 {n : Int} (h : (Lit.int .i64 n).wf = true) : -9223372036854775808 ≤ n ∧ n ≤ 9223372036854775807 := by
  exact bounds_i64 h
theorem open_u8 {r : Reach} {b0 : Nat} {t : TypeId} {v : Value} {d : DataW H} {p : List MemPlace} (ht : P.underlying t = some (.int .u8)) (hv : Value.okWide P w r b0 t v) (h : DataW.Trod enc P w base spare held t v d p) :
    ∃ n, v = .int .u8 n ∧ 0 ≤ n ∧ n ≤ 255 := by
  obtain ⟨n, rfl, _, _, wn⟩ := open_int ht hv h
  exact ⟨n, rfl, bounds_u8 wn⟩
theorem open_boolsF {t e : TypeId} {fuel : Nat} {v : Value} {x : DataW H × List MemPlace} (ht : P.underlying t = some (.slice e)) (he : P.underlying e = some .bool) (hC : P.cellsOf e = 1) (hf : DataW.trod enc P w base spare held fuel t [v] = some x) :
    ∃ (A : Option Addr) (cap : Nat) (xs : List Bool), v = .slice A xs.length cap ∧ xs.length ≤ cap ∧ cap ≤ maxLen ∧ Rd w A (xs.map Value.bool) := by
  obtain ⟨A', cap, zs, hcs, _, _, hlc, hcm, hc⟩ := open_list (α := Bool) (fun z => [.bool z]) (fun _ => True) ht hC (by omega)
    (fun n cs y hy => by obtain ⟨z, rfl, _⟩ := DataW.trod_bool he hy; exact ⟨z, rfl, trivial⟩) hf
  simp only [List.cons.injEq, and_true] at hcs
  refine ⟨A', cap, zs, hcs, hlc, hcm, ?_⟩
  rcases hc with rfl | ⟨b, o, rfl, hc⟩
  · exact .inl rfl
  · refine .inr ⟨b, o, rfl, fun j u hu => ?_⟩
    rw [List.getElem?_map] at hu
    obtain ⟨z, hz, rfl⟩ := Option.map_eq_some_iff.1 hu
    simpa using hc j z hz 0 _ rfl
end
def lnkCells (l : Lnk) : List Value := [.int .i64 l.a, .int .i64 l.b, .int .i64 l.c0, .int .i64 l.c1, .int .i64 l.cap, .int .i64 l.dl, .int .i64 l.g]
def I64 (n : Int) : Prop := -9223372036854775808 ≤ n ∧ n ≤ 9223372036854775807
structure LnkIn (l : Lnk) : Prop where
  a : I64 l.a
  b : I64 l.b
  c0 : I64 l.c0
  c1 : I64 l.c1
  cap : I64 l.cap
  dl : I64 l.dl
  g : I64 l.g
section
variable {H : Type} {enc : TypeId × Value → H} {w : World} {base : Nat} {spare : Nat → Bool} {held : Bool}
theorem cells1 : Try.prog.cellsOf 3 = 1 := by kernel_rfl
theorem cells2 : Try.prog.cellsOf 45 = 2 := by kernel_rfl
theorem cells7 : Try.prog.cellsOf 47 = 7 := by kernel_rfl
set_option maxRecDepth 100000 in
theorem trod_link {n : Nat} {cs : List Value} {y : DataW H × List MemPlace} (h : DataW.trod enc Try.prog w base spare held n 47 cs = some y) : ∃ l : Lnk, cs = lnkCells l ∧ LnkIn l := by
  obtain ⟨ys, m, _, _, hl, hyl, hf⟩ := DataW.trod_struct Try.underlying47 h
  rw [cells7] at hl
  match cs, hl with
  | [v0, v1, v2, v3, v4, v5, v6], _ =>
    have f0 := hf 0 _ rfl
    simp [cells1] at f0
    have f1 := hf 1 _ rfl
    simp [cells1] at f1
    have f2 := hf 2 _ rfl
    simp [cells2] at f2
    have f3 := hf 3 _ rfl
    simp [cells1] at f3
    have f4 := hf 4 _ rfl
    simp [cells1] at f4
    have f5 := hf 5 _ rfl
    simp [cells1] at f5
    match ys, hyl with
    | [y0, y1, y2, y3, y4, y5], _ =>
      obtain ⟨a, e0, _, wa⟩ := DataW.trod_int Try.underlying3 f0
      obtain ⟨b, e1, _, wb⟩ := DataW.trod_int Try.underlying3 f1
      obtain ⟨zs, m2, _, _, _, hzl, hg⟩ := DataW.trod_array Try.underlying45 f2
      have g0 := hg 0 (by omega)
      have g1 := hg 1 (by omega)
      simp [cells1] at g0 g1
      match zs, hzl with
      | [z0, z1], _ =>
        obtain ⟨c0, e2, _, wc0⟩ := DataW.trod_int Try.underlying3 g0
        obtain ⟨c1, e3, _, wc1⟩ := DataW.trod_int Try.underlying3 g1
        obtain ⟨c, e4, _, wc⟩ := DataW.trod_int Try.underlying3 f3
        obtain ⟨d, e5, _, wd⟩ := DataW.trod_int Try.underlying3 f4
        obtain ⟨g, e6, _, wg⟩ := DataW.trod_int Try.underlying3 f5
        simp only [List.cons.injEq, and_true] at e0 e1 e2 e3 e4 e5 e6
        subst e0 e1 e2 e3 e4 e5 e6
        exact ⟨⟨a, b, c0, c1, c, d, g⟩, rfl, ⟨wf64 wa, wf64 wb, wf64 wc0, wf64 wc1, wf64 wc, wf64 wd, wf64 wg⟩⟩
set_option maxRecDepth 100000 in
theorem open_linksF {fuel : Nat} {v : Value} {x : DataW H × List MemPlace} (hf : DataW.trod enc Try.prog w base spare held fuel 23 [v] = some x) :
    ∃ (A : Option Addr) (cap : Nat) (ls : List Lnk), v = .slice A ls.length cap ∧ ls.length ≤ cap ∧ cap ≤ maxLen ∧ (∀ l ∈ ls, LnkIn l) ∧ RdL w A ls := by
  obtain ⟨A', cap, zs, hcs, _, hg, hlc, hcm, hc⟩ := open_list (α := Lnk) lnkCells LnkIn Try.underlying23 cells7 (by omega) (fun n cs y hy => trod_link hy) hf
  simp only [List.cons.injEq, and_true] at hcs
  refine ⟨A', cap, zs, hcs, hlc, hcm, hg, ?_⟩
  rcases hc with rfl | ⟨b, o, rfl, hc⟩
  · exact .inl rfl
  · exact .inr ⟨b, o, rfl, fun k l hl => ⟨hc k l hl 0 _ rfl, hc k l hl 1 _ rfl, hc k l hl 2 _ rfl, hc k l hl 3 _ rfl, hc k l hl 4 _ rfl, hc k l hl 5 _ rfl, hc k l hl 6 _ rfl⟩⟩
theorem cells3 : Try.prog.cellsOf 25 = 3 := by kernel_rfl
theorem cellsB : Try.prog.cellsOf 4 = 1 := by kernel_rfl
end
end Go.Proofs.Ytdnjflpmbnjgeaa
namespace Go.Proofs.Ytdnjflpmbnjgeaa
open Go.ChangeShapes Go.WideShapes Go.ChangeAt Go.RowKit Go.Deep Go.Joins Go.OpenShut
section
variable {H : Type} {enc : TypeId × Value → H} {w : World} {base : Nat} {spare : Nat → Bool} {held : Bool}
def EvIn (e : Ev) : Prop := I64 e.t ∧ I64 e.k ∧ I64 e.n ∧ I64 e.a ∧ I64 e.p ∧ I64 e.r
theorem cellsEv : Try.prog.cellsOf 49 = 6 := by kernel_rfl
set_option maxRecDepth 100000 in
theorem trod_ev {n : Nat} {cs : List Value} {y : DataW H × List MemPlace} (h : DataW.trod enc Try.prog w base spare held n 49 cs = some y) : ∃ e : Ev, cs = evV e ∧ EvIn e := by
  obtain ⟨ys, m, _, _, hl, hyl, hf⟩ := DataW.trod_struct Try.underlying49 h
  rw [cellsEv] at hl
  match cs, hl with
  | [v0, v1, v2, v3, v4, v5], _ =>
    have f0 := hf 0 _ rfl
    simp [cells1] at f0
    have f1 := hf 1 _ rfl
    simp [cells1] at f1
    have f2 := hf 2 _ rfl
    simp [cells1] at f2
    have f3 := hf 3 _ rfl
    simp [cells1] at f3
    have f4 := hf 4 _ rfl
    simp [cells1] at f4
    have f5 := hf 5 _ rfl
    simp [cells1] at f5
    match ys, hyl with
    | [y0, y1, y2, y3, y4, y5], _ =>
      obtain ⟨a0, e0, _, w0⟩ := DataW.trod_int Try.underlying3 f0
      obtain ⟨a1, e1, _, w1⟩ := DataW.trod_int Try.underlying3 f1
      obtain ⟨a2, e2, _, w2⟩ := DataW.trod_int Try.underlying3 f2
      obtain ⟨a3, e3, _, w3⟩ := DataW.trod_int Try.underlying3 f3
      obtain ⟨a4, e4, _, w4⟩ := DataW.trod_int Try.underlying3 f4
      obtain ⟨a5, e5, _, w5⟩ := DataW.trod_int Try.underlying3 f5
      simp only [List.cons.injEq, and_true] at e0 e1 e2 e3 e4 e5
      subst e0 e1 e2 e3 e4 e5
      exact ⟨⟨a0, a1, a2, a3, a4, a5⟩, rfl, wf64 w0, wf64 w1, wf64 w2, wf64 w3, wf64 w4, wf64 w5⟩
end
end Go.Proofs.Ytdnjflpmbnjgeaa
namespace Go.Proofs.Ytdnjflpmbnjgeaa
open Go.ChangeShapes Go.WideShapes Go.ChangeAt Go.RowKit Go.Deep Go.Joins Go.OpenShut
set_option linter.unusedSimpArgs false
set_option linter.unusedVariables false
theorem vflat_get {α : Type} {f : α → List Value} {n : Nat} (hpos : 0 < n) (hn : ∀ x, (f x).length = n) : ∀ (l : List α) (i : Nat) (u : Value), (l.flatMap f)[i]? = some u → ∃ z, l[i / n]? = some z ∧ (f z)[i % n]? = some u
  | [], i, u, h => by simp at h
  | x :: r, i, u, h => by
    rw [List.flatMap_cons] at h
    by_cases hi : i < n
    · rw [List.getElem?_append_left (by rw [hn]; exact hi)] at h
      exact ⟨x, by rw [Nat.div_eq_of_lt hi]; rfl, by rw [Nat.mod_eq_of_lt hi]; exact h⟩
    · rw [List.getElem?_append_right (by rw [hn]; omega), hn] at h
      obtain ⟨z, h1, h2⟩ := vflat_get hpos hn r (i - n) u h
      have e1 : i / n = (i - n) / n + 1 := by
        have := Nat.add_div_right (i - n) hpos
        rw [show i - n + n = i by omega] at this
        exact this
      have e2 : i % n = (i - n) % n := by
        have := Nat.add_mod_right (i - n) n
        rw [show i - n + n = i by omega] at this
        exact this
      exact ⟨z, by rw [e1]; simpa using h1, by rw [e2]; exact h2⟩
section
variable {H : Type} {enc : TypeId × Value → H} {P : Program} {w : World} {base : Nat} {spare : Nat → Bool} {held : Bool}
theorem vopen_flat {α : Type} {t e : TypeId} {size fuel : Nat} {v : Value} {x : DataW H × List MemPlace} (dec : α → List Value) (Good : α → Prop) (ht : P.underlying t = some (.slice e)) (hC : P.cellsOf e = size) (hpos : 0 < size) (hlen : ∀ z, (dec z).length = size)
    (hdec : ∀ n cs y, DataW.trod enc P w base spare held n e cs = some y → ∃ z : α, cs = dec z ∧ Good z)
    (h : DataW.trod enc P w base spare held fuel t [v] = some x) :
    ∃ (A : Option Addr) (cap : Nat) (zs : List α), v = .slice A zs.length cap ∧ zs.length ≤ maxLen ∧ (∀ z ∈ zs, Good z) ∧ zs.length ≤ cap ∧ cap ≤ maxLen ∧ Rd w A (zs.flatMap dec) := by
  obtain ⟨A, cap, zs, hcs, hm, hg, hlc, hcm, hc⟩ := open_list dec Good ht hC hpos hdec h
  simp only [List.cons.injEq, and_true] at hcs
  refine ⟨A, cap, zs, hcs, hm, hg, hlc, hcm, ?_⟩
  rcases hc with rfl | ⟨b, o, rfl, hc⟩
  · exact .inl rfl
  · refine .inr ⟨b, o, rfl, fun j u hu => ?_⟩
    obtain ⟨z, h1, h2⟩ := vflat_get hpos hlen zs j u hu
    have := hc (j / size) z h1 (j % size) u h2
    rw [← this]
    congr 2
    have := Nat.div_add_mod j size
    rw [Nat.mul_comm] at this
    omega
end
theorem varray9 {cs : Array Value} (h : cs.size = 9) : ∃ c0 c1 c2 c3 c4 c5 c6 c7 c8, cs = #[c0, c1, c2, c3, c4, c5, c6, c7, c8] := by
  obtain ⟨l⟩ := cs
  match l, h with
  | [a, b, c, d, e, f, g, i, j], _ => exact ⟨a, b, c, d, e, f, g, i, j, rfl⟩
section
variable {H : Type} {enc : TypeId × Value → H} {w : World} {base : Nat} {spare : Nat → Bool} {held : Bool}
theorem vcells2c : Try.prog.cellsOf 77 = 2 := by kernel_rfl
theorem vcells4o : Try.prog.cellsOf 79 = 4 := by kernel_rfl
theorem vcells6p : Try.prog.cellsOf 52 = 6 := by kernel_rfl
theorem vcells7f : Try.prog.cellsOf 28 = 7 := by kernel_rfl
theorem vcells9c : Try.prog.cellsOf 32 = 9 := by kernel_rfl
theorem vcells1q : Try.prog.cellsOf 50 = 1 := by kernel_rfl
theorem vcells2s : Try.prog.cellsOf 161 = 2 := by kernel_rfl
theorem vcells1o : Try.prog.cellsOf 26 = 1 := by kernel_rfl
theorem vcells1p : Try.prog.cellsOf 29 = 1 := by kernel_rfl
theorem vcells1e : Try.prog.cellsOf 30 = 1 := by kernel_rfl
theorem vcells1l : Try.prog.cellsOf 23 = 1 := by kernel_rfl
theorem vcells1b : Try.prog.cellsOf 22 = 1 := by kernel_rfl
def vsegV (s : Int × Int) : List Value := [.int .i64 s.1, .int .i64 s.2]
set_option maxRecDepth 100000 in
theorem trod_outage {n : Nat} {cs : List Value} {y : DataW H × List MemPlace} (h : DataW.trod enc Try.prog w base spare held n 79 cs = some y) : ∃ s : OutN, cs = outL s ∧ True := by
  obtain ⟨ys, m, _, _, hl, hyl, hf⟩ := DataW.trod_struct Try.underlying79 h
  rw [vcells4o] at hl
  match cs, hl with
  | [v0, v1, v2, v3], _ =>
    have f0 := hf 0 _ rfl
    simp [cells1] at f0
    have f1 := hf 1 _ rfl
    simp [cells1] at f1
    have f2 := hf 2 _ rfl
    simp [vcells2c] at f2
    match ys, hyl with
    | [y0, y1, y2], _ =>
      obtain ⟨a0, e0, _, _⟩ := DataW.trod_int Try.underlying3 f0
      obtain ⟨a1, e1, _, _⟩ := DataW.trod_int Try.underlying3 f1
      obtain ⟨zc, m3, _, _, _, hzc, hk⟩ := DataW.trod_struct Try.underlying77 f2
      have k0 := hk 0 _ rfl
      simp [cells1] at k0
      have k1 := hk 1 _ rfl
      simp [cells1] at k1
      match zc, hzc with
      | [q0, q1], _ =>
        obtain ⟨c0, r0, _, _⟩ := DataW.trod_int Try.underlying3 k0
        obtain ⟨c1, r1, _, _⟩ := DataW.trod_int Try.underlying3 k1
        simp only [List.cons.injEq, and_true] at e0 e1 r0 r1
        subst e0 e1 r0 r1
        exact ⟨⟨a0, a1, c0, c1⟩, rfl, trivial⟩
set_option maxRecDepth 100000 in
theorem trod_vseg {n : Nat} {cs : List Value} {y : DataW H × List MemPlace} (h : DataW.trod enc Try.prog w base spare held n 161 cs = some y) : ∃ s : Int × Int, cs = vsegV s ∧ True := by
  obtain ⟨ys, m, _, _, hl, hyl, hf⟩ := DataW.trod_struct Try.underlying161 h
  rw [vcells2s] at hl
  match cs, hl with
  | [v0, v1], _ =>
    have f0 := hf 0 _ rfl
    simp [cells1] at f0
    have f1 := hf 1 _ rfl
    simp [cells1] at f1
    match ys, hyl with
    | [y0, y1], _ =>
      obtain ⟨a0, e0, _, _⟩ := DataW.trod_int Try.underlying3 f0
      obtain ⟨a1, e1, _, _⟩ := DataW.trod_int Try.underlying3 f1
      simp only [List.cons.injEq, and_true] at e0 e1
      subst e0 e1
      exact ⟨⟨a0, a1⟩, rfl, trivial⟩
set_option maxRecDepth 100000 in
theorem trod_packet {n : Nat} {cs : List Value} {y : DataW H × List MemPlace} (h : DataW.trod enc Try.prog w base spare held n 52 cs = some y) : ∃ p : PkN, cs = pkL p ∧ inJ p.id := by
  obtain ⟨ys, m, _, _, hl, hyl, hf⟩ := DataW.trod_struct Try.underlying52 h
  rw [vcells6p] at hl
  match cs, hl with
  | [v0, v1, v2, v3, v4, v5], _ =>
    have f0 := hf 0 _ rfl
    simp [cells1] at f0
    have f1 := hf 1 _ rfl
    simp [cells1] at f1
    have f2 := hf 2 _ rfl
    simp [cells1] at f2
    have f3 := hf 3 _ rfl
    simp [cells1] at f3
    have f4 := hf 4 _ rfl
    simp [vcells1q] at f4
    have f5 := hf 5 _ rfl
    simp [cells1] at f5
    match ys, hyl with
    | [y0, y1, y2, y3, y4, y5], _ =>
      obtain ⟨a0, e0, _, w0⟩ := DataW.trod_int Try.underlying3 f0
      obtain ⟨a1, e1, _, _⟩ := DataW.trod_int Try.underlying3 f1
      obtain ⟨a2, e2, _, _⟩ := DataW.trod_int Try.underlying3 f2
      obtain ⟨a3, e3, _, _⟩ := DataW.trod_int Try.underlying3 f3
      obtain ⟨A, cap, ss, rfl, _, _, _, _, _⟩ := vopen_flat vsegV (fun _ => True) Try.underlying50 vcells2s (by omega) (fun _ => rfl) (fun n cs y hy => trod_vseg hy) f4
      obtain ⟨a5, e5, _, _⟩ := DataW.trod_int Try.underlying3 f5
      simp only [List.cons.injEq, and_true] at e0 e1 e2 e3 e5
      subst e0 e1 e2 e3 e5
      exact ⟨⟨a0, a1, a2, a3, A, ss.length, cap, a5⟩, rfl, wf64 w0⟩
set_option maxHeartbeats 4000000 in
set_option maxRecDepth 100000 in
/-- A case that came in. -/
theorem open_case {r : Reach} {b0 : Nat} {v : Value} {d : DataW H} {p : List MemPlace} (hv : Value.okWide Try.prog w r b0 32 v) (h : DataW.Trod enc Try.prog w base spare held 32 v d p) :
    ∃ (F : FaN) (ps : List PkN) (tr : List Ev) (A1 A2 O B C : Option Addr) (c1 c2 co cp ct : Nat), v = .agg #[.int .i64 F.t.n, .slice A1 F.t.ov.length c1, .slice A2 F.t.ls.length c2, .int .i64 F.det, .int .i64 F.ga, .int .i64 F.ho, .slice O F.out.length co, .slice B ps.length cp, .slice C tr.length ct] ∧
      TAt w A1 A2 F.t ∧ Rd w O (F.out.flatMap outL) ∧ Rd w B (ps.flatMap pkL) ∧ RdE w C tr ∧ tr.length ≤ ct ∧ ct ≤ maxLen ∧ ∀ p ∈ ps, inJ p.id := by
  obtain ⟨cs, rfl, hsz⟩ := okWide_struct Try.underlying32 hv
  obtain ⟨c0, c1, c2, c3, c4, c5, c6, c7, c8, rfl⟩ := varray9 (hsz.trans vcells9c)
  obtain ⟨fuel, hf0⟩ := h
  obtain ⟨ys, m, _, _, _, hyl, hf⟩ := DataW.trod_struct Try.underlying32 hf0
  have f0 := hf 0 _ rfl
  simp [vcells7f, Value.cells] at f0
  have f1 := hf 1 _ rfl
  simp [vcells1p, Value.cells] at f1
  have f2 := hf 2 _ rfl
  simp [vcells1e, Value.cells] at f2
  match ys, hyl with
  | [y0, y1, y2], _ =>
    obtain ⟨zs, m2, _, _, _, hzl, hg⟩ := DataW.trod_struct Try.underlying28 f0
    have g0 := hg 0 _ rfl
    simp [cells3] at g0
    have g1 := hg 1 _ rfl
    simp [cells1] at g1
    have g2 := hg 2 _ rfl
    simp [cells1] at g2
    have g3 := hg 3 _ rfl
    simp [cells1] at g3
    have g4 := hg 4 _ rfl
    simp [vcells1o] at g4
    match zs, hzl with
    | [z0, z1, z2, z3, z4], _ =>
      obtain ⟨ts, m3, _, _, _, htl, ht⟩ := DataW.trod_struct Try.underlying25 g0
      have t0 := ht 0 _ rfl
      simp [cells1] at t0
      have t1 := ht 1 _ rfl
      simp [vcells1b] at t1
      have t2 := ht 2 _ rfl
      simp [vcells1l] at t2
      match ts, htl with
      | [u0, u1, u2], _ =>
        obtain ⟨n, e0, _, _⟩ := DataW.trod_int Try.underlying3 t0
        obtain ⟨A1, k1, ov, rfl, _, _, hov⟩ := open_boolsF Try.underlying22 Try.underlying4 cellsB t1
        obtain ⟨A2, k2, ls, rfl, _, _, _, hls⟩ := open_linksF t2
        obtain ⟨det, e1, _, _⟩ := DataW.trod_int Try.underlying3 g1
        obtain ⟨ga, e2, _, _⟩ := DataW.trod_int Try.underlying3 g2
        obtain ⟨ho, e3, _, _⟩ := DataW.trod_int Try.underlying3 g3
        obtain ⟨O, k4, out, rfl, _, _, _, _, hro⟩ := vopen_flat outL (fun _ => True) Try.underlying26 vcells4o (by omega) (fun _ => rfl) (fun n cs y hy => trod_outage hy) g4
        obtain ⟨B, k5, ps, rfl, _, gp, _, _, hrp⟩ := vopen_flat pkL (fun p => inJ p.id) Try.underlying29 vcells6p (by omega) (fun _ => rfl) (fun n cs y hy => trod_packet hy) f1
        obtain ⟨C, ct, tr, hcs, _, _, hlc, hcm, hc⟩ := open_list (α := Ev) evV EvIn Try.underlying30 cellsEv (by omega) (fun n cs y hy => trod_ev hy) f2
        simp only [List.cons.injEq, and_true] at e0 e1 e2 e3 hcs
        subst e0 e1 e2 e3 hcs
        refine ⟨⟨⟨n, ov, ls⟩, det, ga, ho, out⟩, ps, tr, A1, A2, O, B, C, k1, k2, k4, k5, ct, rfl, ⟨hov, hls⟩, hro, hrp, ?_, hlc, hcm, gp⟩
        rcases hc with rfl | ⟨b, o, rfl, hc⟩
        · exact .inl rfl
        · exact .inr ⟨b, o, rfl, fun k e he => evO_of fun j u hj => hc k e he j u hj⟩
end
end Go.Proofs.Ytdnjflpmbnjgeaa
