/-
  config.Parse: what the parser keeps between lines; what Parse returns, in plain Lean.
-/
import Derived.Test.YtpofbhaipeiegaaGreatDoorCfgLn
import Derived.Test.YtpofbhaipeiegaaGreatDoorCfgSp
import Derived.Test.YtpofbhaipeiegaaGreatDoorQuietR
import Derived.Stop.RegionWithIn
namespace Go.Proofs.YtpofbhaipeiegaaGreatDoor
set_option linter.unusedSimpArgs false
set_option linter.unusedVariables false
open Go.RowKit Go.Shelf Go.Sort

def c0 : Cf := ⟨[], [], [], [], [], [], [10, 35, 5, 20, 20], [], [], [false, false, false, false, false], [], []⟩
def r0 : Rws := ⟨none, 0, none, 0, none, 0, none, 0, none, 0, none, 0, none, 0, [], []⟩
/-- The lines, one after another: the configuration, or the line and the error. -/
def parseL : List (List UInt8) → Nat → Cf → Except (Nat × Int) Cf
  | [], _, c => .ok c
  | l :: r, k, c => if wordsS l = [] then parseL r (k + 1) c else match lineS true c (wordsS l) with
    | .error e => .error (k + 1, e)
    | .ok _ => match lineS false c (wordsS l) with
      | .error e => .error (k + 1, e)
      | .ok c' => parseL r (k + 1) c'
def parseC (s : List UInt8) : Except (Nat × Int) Cf :=
  match parseL (splitK 10 [] s) 0 c0 with
  | .error e => .error e
  | .ok c => if c.names = [] then .error (0, 8) else .ok c
theorem parseL_skip {l : List UInt8} {r : List (List UInt8)} {k : Nat} {c : Cf} (h : wordsS l = []) : parseL (l :: r) k c = parseL r (k + 1) c := by rw [parseL, if_pos h]
theorem parseL_e1 {l : List UInt8} {r : List (List UInt8)} {k : Nat} {c : Cf} {e : Int} (h : ¬ wordsS l = []) (h1 : lineS true c (wordsS l) = .error e) : parseL (l :: r) k c = .error (k + 1, e) := by rw [parseL, if_neg h, h1]
theorem parseL_e2 {l : List UInt8} {r : List (List UInt8)} {k : Nat} {c c1 : Cf} {e : Int} (h : ¬ wordsS l = []) (h1 : lineS true c (wordsS l) = .ok c1) (h2 : lineS false c (wordsS l) = .error e) : parseL (l :: r) k c = .error (k + 1, e) := by rw [parseL, if_neg h, h1]; simp only [h2]
theorem parseL_go {l : List UInt8} {r : List (List UInt8)} {k : Nat} {c c1 c2 : Cf} (h : ¬ wordsS l = []) (h1 : lineS true c (wordsS l) = .ok c1) (h2 : lineS false c (wordsS l) = .ok c2) : parseL (l :: r) k c = parseL r (k + 1) c2 := by rw [parseL, if_neg h, h1]; simp only [h2]

theorem pc_setw {k : List Value} {wv : Value} {i : Nat} {dry : Bool} (h : k.length = 22) (v : Value) : (pcells k wv i dry).setIfInBounds 22 v = pcells k v i dry := by
  unfold pcells
  rw [List.setIfInBounds_toArray, List.set_append_right _ _ (by omega), h]
  rfl
theorem pc_setd {k : List Value} {wv : Value} {i : Nat} {dry : Bool} (h : k.length = 22) (d : Bool) : (pcells k wv i dry).setIfInBounds 24 (.bool d) = pcells k wv i d := by
  unfold pcells
  rw [List.setIfInBounds_toArray, List.set_append_right _ _ (by omega), h]
  rfl
section
variable {B pb sb xb yb : Nat} {r : Rws} {c : Cf} {wv wv' : Value} {i i' : Nat} {dry dry' : Bool} {W W' Y : World}
theorem St.move (h : St B pb sb xb yb r c wv i dry W) (hl : LoN pb W W') (hb : W'.heap[pb]? = some (.cells (pcells (kOf r c sb xb yb) wv' i' dry') 74 (0, 0))) : St B pb sb xb yb r c wv' i' dry' W' := by
  have hlt := h.bl.1
  have e : ∀ b, b ≠ pb → b < W.heap.size → W'.heap[b]? = W.heap[b]? := fun b hb hs => hl.blk b hs (by simpa using hb)
  have hpx : xb ≠ pb := fun e => by
    obtain ⟨es, cl, h1, _⟩ := h.xm
    rw [e, h.blk] at h1; cases h1
  have hpy : yb ≠ pb := fun e => by
    obtain ⟨es, cl, h1, _⟩ := h.ym
    rw [e, h.blk] at h1; cases h1
  have hps : sb ≠ pb := fun e => by
    obtain ⟨es, cl, h1, _⟩ := h.sm
    rw [e, h.blk] at h1; cases h1
  exact ⟨hb, h.rows.keep fun g h1 h2 => e g (by omega) h2, h.sm.kept (e sb hps h.sm.lt), h.xm.kept (e xb hpx h.xm.lt), h.ym.kept (e yb hpy h.ym.lt), h.lim, h.ll, h.bl, Nat.le_trans h.sz hl.size⟩
theorem St.up (h : St B pb sb xb yb r c wv i dry W) (hb : Below W.heap.size W W') : St B pb sb xb yb r c wv i dry W' := h.move (LoN.below hb) ((hb.block pb (lt_of_heap h.blk)).trans h.blk)
theorem St.setW (h : St B pb sb xb yb r c wv i dry W) (v : Value) : St B pb sb xb yb r c v i dry (W.setCell ⟨pb, 22, none⟩ v) ∧ LoN pb W (W.setCell ⟨pb, 22, none⟩ v) := by
  have hl : LoN pb W (W.setCell ⟨pb, 22, none⟩ v) := LoP.setC h.blk (.inl (by simp)) (Nat.le_refl _) v
  refine ⟨h.move hl ?_, hl⟩
  rw [heap_setCell_same _ _ 22 _ _ _ h.blk, pc_setw (kOf_len _ _ _ _ _)]
theorem St.setD (h : St B pb sb xb yb r c wv i dry W) (d : Bool) : St B pb sb xb yb r c wv i d (W.setCell ⟨pb, 24, none⟩ (.bool d)) ∧ LoN pb W (W.setCell ⟨pb, 24, none⟩ (.bool d)) := by
  have hl : LoN pb W (W.setCell ⟨pb, 24, none⟩ (.bool d)) := LoP.setC h.blk (.inl (by simp)) (Nat.le_refl _) _
  refine ⟨h.move hl ?_, hl⟩
  rw [heap_setCell_same _ _ 24 _ _ _ h.blk, pc_setd (kOf_len _ _ _ _ _)]
theorem St.wcell (h : St B pb sb xb yb r c wv i dry W) : W.cell? ⟨pb, 22, none⟩ = some wv ∧ W.cell? ⟨pb, 24, none⟩ = some (.bool dry) := ⟨(Lib.cell_of_heap h.blk 22).trans (pc_w (kOf_len _ _ _ _ _)), (Lib.cell_of_heap h.blk 24).trans (pc_d (kOf_len _ _ _ _ _))⟩
theorem own_cells {W : World} {base : Nat} {e : TypeId} {size n : Nat} {v : Value} {xs : List Value} (h : W.ownsRow base e size v n xs) {g : Nat} (hg : v.ownBlock = some g) : ∃ cs t fr, W.heap[g]? = some (.cells cs t fr) := by
  rcases h.2 with ⟨rfl, _⟩ | ⟨g', cap, cur, rfl, _, hgg, _⟩
  · simp [Value.ownBlock] at hg
  · simp [Value.ownBlock] at hg
    subst hg
    exact ⟨_, _, _, hgg⟩
theorem St.grown {Bs q : Nat} (h : St B pb sb xb yb r c wv i dry W) (hg : W.grownBy Y (some q)) (hq : q = Bs ∨ (B ≤ q ∧ ∃ o : Obj, W.heap[q]? = some o ∧ o.isCells = false)) (hb : Bs < B ∧ Bs ≠ pb ∧ Bs ≠ sb ∧ Bs ≠ xb ∧ Bs ≠ yb) : St B pb sb xb yb r c wv i dry Y := by
  have hlt := h.bl.1
  have hne : ∀ k, k < B → k ≠ Bs → k < W.heap.size → Y.heap[k]? = W.heap[k]? := fun k h1 h2 h3 => hg.block k h3 (fun e => by
    injection e with e
    rcases hq with h4 | h4 <;> omega)
  refine ⟨(hne pb hlt.1 (Ne.symm hb.2.1) (lt_of_heap h.blk)).trans h.blk, ⟨fun R hR => own_keepG (h.rows.own R hR) fun g e => ?_, h.rows.apart⟩, h.sm.kept (hne sb hlt.2.1 (Ne.symm hb.2.2.1) h.sm.lt), h.xm.kept (hne xb hlt.2.2.1 (Ne.symm hb.2.2.2.1) h.xm.lt), h.ym.kept (hne yb hlt.2.2.2 (Ne.symm hb.2.2.2.2) h.ym.lt), h.lim, h.ll, h.bl, Nat.le_trans h.sz hg.size⟩
  have ho := h.rows.own R hR
  have hlt2 := ho.lt g e
  refine hg.block g hlt2.2 (fun e2 => ?_)
  injection e2 with e2
  subst e2
  rcases hq with h4 | ⟨_, o, h5, h6⟩
  · omega
  · obtain ⟨cs, t, fr, h7⟩ := own_cells ho e
    rw [h7] at h5; cases h5; cases h6
end

section
variable {B pb sb xb yb : Nat} {r : Rws} {c : Cf} {wv : Value} {i : Nat} {dry : Bool} {W : World}
/-- A store elsewhere. -/
theorem St.other (h : St B pb sb xb yb r c wv i dry W) {q j : Nat} (hq : q < B ∧ q ≠ pb ∧ q ≠ sb ∧ q ≠ xb ∧ q ≠ yb) (v : Value) : St B pb sb xb yb r c wv i dry (W.setCell ⟨q, j, none⟩ v) := by
  have hx : ∀ k, k ≠ q → (W.setCell ⟨q, j, none⟩ v).heap[k]? = W.heap[k]? := fun k hk => Below.heap_setCell _ _ _ _ (by simpa using hk)
  exact ⟨(hx pb (Ne.symm hq.2.1)).trans h.blk, h.rows.keep fun g h1 h2 => hx g (by omega), h.sm.kept (hx sb (Ne.symm hq.2.2.1)), h.xm.kept (hx xb (Ne.symm hq.2.2.2.1)), h.ym.kept (hx yb (Ne.symm hq.2.2.2.2)), h.lim, h.ll, h.bl, by simpa using h.sz⟩
end
/-! A chain of new blocks. -/
def allocL (w : World) (L : List Obj) : World := L.foldl World.alloc w
theorem allocL_size (L : List Obj) : ∀ w : World, (allocL w L).heap.size = w.heap.size + L.length := by
  induction L with
  | nil => intro w; rfl
  | cons o r ih => intro w; rw [show allocL w (o :: r) = allocL (w.alloc o) r from rfl, ih]; simp; omega
theorem allocL_below (L : List Obj) : ∀ w : World, Below w.heap.size w (allocL w L) := by
  induction L with
  | nil => intro w; exact Below.refl _ _
  | cons o r ih => intro w; exact (below_box w o).trans ((ih (w.alloc o)).mono (by simp))
theorem allocL_heap (L : List Obj) : ∀ (w : World) (j : Nat) (o : Obj), L[j]? = some o → (allocL w L).heap[w.heap.size + j]? = some o := by
  induction L with
  | nil => intro w j o h; simp at h
  | cons a r ih =>
    intro w j o h
    rw [show allocL w (a :: r) = allocL (w.alloc a) r from rfl]
    cases j with
    | zero =>
      simp at h
      subst h
      exact ((allocL_below r (w.alloc a)).block _ (by simp)).trans (World.alloc_heap_new w a)
    | succ j =>
      have := ih (w.alloc a) j o (by simpa using h)
      rw [World.size_alloc] at this
      rw [show w.heap.size + (j + 1) = w.heap.size + 1 + j by omega]
      exact this
def zeroK : Array Value := #[.slice none 0 0, .slice none 0 0, .int .i64 0, .slice none 0 0, .slice none 0 0, .slice none 0 0, .slice none 0 0, .slice none 0 0, .int .i64 0, .int .i64 0, .int .i64 0, .int .i64 0, .int .i64 0]
def startL (n : Nat) (s : List UInt8) : List Obj :=
  [.cells zeroK 37, .cells #[.int .i64 0] 3, .cells #[.int .i64 0] 38, .map #[] 0, .map #[] 0, .map #[] 0,
   .cells (pcells (kOf r0 c0 (n + 1 + 1 + 1) (n + 1 + 1 + 1 + 1) (n + 1 + 1 + 1 + 1 + 1)) (.slice none 0 0) 0 false) 74, .cells #[.pointer (some ⟨n + 1 + 1 + 1 + 1 + 1 + 1, 0, none⟩)] 68, .cells #[.int .i64 0] 3,
   .cells #[.string ⟨s.toArray⟩] 9, .cells #[.string ⟨#[10]⟩] 9, .cells #[.int .i64 0] 3]
theorem start_st (w : World) (s : List UInt8) : St (w.heap.size + 12) (w.heap.size + 6) (w.heap.size + 3) (w.heap.size + 4) (w.heap.size + 5) r0 c0 (.slice none 0 0) 0 false (allocL w (startL w.heap.size s)) := by
  refine ⟨allocL_heap _ w 6 _ rfl, ⟨?_, ?_⟩, ⟨#[], 0, allocL_heap _ w 3 _ rfl, rfl, by simp [symV, c0], by simp [symV, c0]⟩, ⟨#[], 0, allocL_heap _ w 4 _ rfl, rfl, by simp [pfxL, c0], by simp [pfxL, c0]⟩, ⟨#[], 0, allocL_heap _ w 5 _ rfl, rfl, by simp [polL, c0], by simp [polL, c0]⟩, ?_, rfl, by omega, by rw [allocL_size]; simp [startL]⟩
  · intro R hR
    simp only [rowsOf, r0, c0, List.zip_nil_left, List.map_nil, List.append_nil, List.mem_cons, List.not_mem_nil, or_false] at hR
    rcases hR with rfl | rfl | rfl | rfl | rfl | rfl | rfl <;> exact World.ownsRow_nil _ _ _ _
  · simp [rowsOf, r0, c0, fldA]
  · exact ⟨by simp [c0], by simp [c0], by simp [c0], by simp [c0], by simp [c0], by simp [c0], by simp [c0], rfl, rfl, by simp [c0]⟩
/-- The boxes of Parse beside the parser. -/
structure PX (w : World) (b0 b1 b2 bp nb pb : Nat) (k : Int) (W : World) : Prop where
  hp : Boxed W bp 68 (.pointer (some ⟨pb, 0, none⟩))
  hn : Boxed W nb 3 (.int .i64 k)
  h0 : W.heap[b0]? = some (.cells zeroK 37 (0, 0))
  h1 : Boxed W b1 3 (.int .i64 0)
  h2 : Boxed W b2 38 (.int .i64 0)
  hb : Below b0 w W
theorem PX.lo {w : World} {b0 b1 b2 bp nb pb B : Nat} {X : List Nat} {k : Int} {W W' : World} (h : PX w b0 b1 b2 bp nb pb k W) (hl : LoM B X W W') (hB : bp < B ∧ nb < B ∧ b0 < B ∧ b1 < B ∧ b2 < B) (hX : bp ∉ X ∧ nb ∉ X ∧ b0 ∉ X ∧ b1 ∉ X ∧ b2 ∉ X) (hY : ∀ x ∈ X, b0 ≤ x) (hw : b0 ≤ w.heap.size) : PX w b0 b1 b2 bp nb pb k W' :=
  ⟨(hl.blk _ hB.1 hX.1).trans h.hp, (hl.blk _ hB.2.1 hX.2.1).trans h.hn, (hl.blk _ hB.2.2.1 hX.2.2.1).trans h.h0, (hl.blk _ hB.2.2.2.1 hX.2.2.2.1).trans h.h1, (hl.blk _ hB.2.2.2.2 hX.2.2.2.2).trans h.h2,
    ⟨hl.os.trans h.hb.os, hl.tape.trans h.hb.tape, hl.output.trans h.hb.output, Nat.le_trans h.hb.size hl.size, fun j hj => (hl.blk j (by omega) (fun e => by have := hY j e; omega)).trans (h.hb.block j hj)⟩⟩
theorem PX.setN {w : World} {b0 b1 b2 bp nb pb : Nat} {k : Int} {W : World} (h : PX w b0 b1 b2 bp nb pb k W) (hn : nb ≠ bp ∧ nb ≠ b0 ∧ nb ≠ b1 ∧ nb ≠ b2 ∧ b0 ≤ nb) (k' : Int) : PX w b0 b1 b2 bp nb pb k' (W.setCell ⟨nb, 0, none⟩ (.int .i64 k')) := by
  have hx : ∀ k, k ≠ nb → (W.setCell ⟨nb, 0, none⟩ (.int .i64 k')).heap[k]? = W.heap[k]? := fun k hk => Below.heap_setCell _ _ _ _ (by simpa using hk)
  exact ⟨(hx _ (Ne.symm hn.1)).trans h.hp, h.hn.set _, (hx _ (Ne.symm hn.2.1)).trans h.h0, (hx _ (Ne.symm hn.2.2.1)).trans h.h1, (hx _ (Ne.symm hn.2.2.2.1)).trans h.h2, h.hb.setCell (by simpa using hn.2.2.2.2) _⟩
theorem PX.grown {w : World} {b0 b1 b2 bp nb pb B Bs q : Nat} {k : Int} {W Y : World} (h : PX w b0 b1 b2 bp nb pb k W) (hg : W.grownBy Y (some q)) (hq : q = Bs ∨ B ≤ q) (hB : bp < B ∧ nb < B ∧ b0 < B ∧ b1 < B ∧ b2 < B) (hX : bp ≠ Bs ∧ nb ≠ Bs ∧ b0 ≠ Bs ∧ b1 ≠ Bs ∧ b2 ≠ Bs ∧ b0 ≤ Bs) (hw : b0 ≤ w.heap.size) : PX w b0 b1 b2 bp nb pb k Y := by
  have e : ∀ b, b < B → b ≠ Bs → b < W.heap.size → Y.heap[b]? = W.heap[b]? := fun b h1 h2 h3 => hg.block b h3 (fun e => by injection e with e; omega)
  exact ⟨(e _ hB.1 hX.1 h.hp.lt).trans h.hp, (e _ hB.2.1 hX.2.1 h.hn.lt).trans h.hn, (e _ hB.2.2.1 hX.2.2.1 (lt_of_heap h.h0)).trans h.h0, (e _ hB.2.2.2.1 hX.2.2.2.1 h.h1.lt).trans h.h1, (e _ hB.2.2.2.2 hX.2.2.2.2.1 h.h2.lt).trans h.h2,
    h.hb.grown hg (by have := h.hb.size; omega) (fun j ej => by injection ej with ej; have := hX.2.2.2.2.2; omega)⟩
theorem grown_setc (W : World) (b j : Nat) (v : Value) : W.grownBy (W.setCell ⟨b, j, none⟩ v) (some b) := ⟨rfl, rfl, rfl, by simp, fun k _ hk => Below.heap_setCell _ _ _ _ (fun e => hk (by rw [e]))⟩
theorem grown_trans {X Y Z : World} {r : Option Nat} (h : X.grownBy Y r) (g : Y.grownBy Z r) : X.grownBy Z r := ⟨g.os.trans h.os, g.tape.trans h.tape, g.output.trans h.output, Nat.le_trans h.size g.size, fun k hk hn => (g.block k (Nat.lt_of_lt_of_le hk h.size) hn).trans (h.block k hk hn)⟩
theorem put13 {W : World} {b : Nat} {T : TypeId} (h : W.heap[b]? = some (.cells zeroK T (0, 0))) (v0 v1 v2 v3 v4 v5 v6 v7 v8 v9 v10 v11 v12 : Value) :
    (((((((((((((W.setCell ⟨b, 0, none⟩ v0).setCell ⟨b, 1, none⟩ v1).setCell ⟨b, 2, none⟩ v2).setCell ⟨b, 3, none⟩ v3).setCell ⟨b, 4, none⟩ v4).setCell ⟨b, 5, none⟩ v5).setCell ⟨b, 6, none⟩ v6).setCell ⟨b, 7, none⟩ v7).setCell ⟨b, 8, none⟩ v8).setCell ⟨b, 9, none⟩ v9).setCell ⟨b, 10, none⟩ v10).setCell ⟨b, 11, none⟩ v11).setCell ⟨b, 12, none⟩ v12).heap[b]? = some (.cells #[v0, v1, v2, v3, v4, v5, v6, v7, v8, v9, v10, v11, v12] T (0, 0)) ∧ W.grownBy (((((((((((((W.setCell ⟨b, 0, none⟩ v0).setCell ⟨b, 1, none⟩ v1).setCell ⟨b, 2, none⟩ v2).setCell ⟨b, 3, none⟩ v3).setCell ⟨b, 4, none⟩ v4).setCell ⟨b, 5, none⟩ v5).setCell ⟨b, 6, none⟩ v6).setCell ⟨b, 7, none⟩ v7).setCell ⟨b, 8, none⟩ v8).setCell ⟨b, 9, none⟩ v9).setCell ⟨b, 10, none⟩ v10).setCell ⟨b, 11, none⟩ v11).setCell ⟨b, 12, none⟩ v12) (some b) ∧ (((((((((((((W.setCell ⟨b, 0, none⟩ v0).setCell ⟨b, 1, none⟩ v1).setCell ⟨b, 2, none⟩ v2).setCell ⟨b, 3, none⟩ v3).setCell ⟨b, 4, none⟩ v4).setCell ⟨b, 5, none⟩ v5).setCell ⟨b, 6, none⟩ v6).setCell ⟨b, 7, none⟩ v7).setCell ⟨b, 8, none⟩ v8).setCell ⟨b, 9, none⟩ v9).setCell ⟨b, 10, none⟩ v10).setCell ⟨b, 11, none⟩ v11).setCell ⟨b, 12, none⟩ v12).heap.size = W.heap.size := by
  have h0 := heap_setCell_same W b 0 _ _ v0 h
  have h1 := heap_setCell_same (W.setCell ⟨b, 0, none⟩ v0) b 1 _ _ v1 h0
  have h2 := heap_setCell_same ((W.setCell ⟨b, 0, none⟩ v0).setCell ⟨b, 1, none⟩ v1) b 2 _ _ v2 h1
  have h3 := heap_setCell_same (((W.setCell ⟨b, 0, none⟩ v0).setCell ⟨b, 1, none⟩ v1).setCell ⟨b, 2, none⟩ v2) b 3 _ _ v3 h2
  have h4 := heap_setCell_same ((((W.setCell ⟨b, 0, none⟩ v0).setCell ⟨b, 1, none⟩ v1).setCell ⟨b, 2, none⟩ v2).setCell ⟨b, 3, none⟩ v3) b 4 _ _ v4 h3
  have h5 := heap_setCell_same (((((W.setCell ⟨b, 0, none⟩ v0).setCell ⟨b, 1, none⟩ v1).setCell ⟨b, 2, none⟩ v2).setCell ⟨b, 3, none⟩ v3).setCell ⟨b, 4, none⟩ v4) b 5 _ _ v5 h4
  have h6 := heap_setCell_same ((((((W.setCell ⟨b, 0, none⟩ v0).setCell ⟨b, 1, none⟩ v1).setCell ⟨b, 2, none⟩ v2).setCell ⟨b, 3, none⟩ v3).setCell ⟨b, 4, none⟩ v4).setCell ⟨b, 5, none⟩ v5) b 6 _ _ v6 h5
  have h7 := heap_setCell_same (((((((W.setCell ⟨b, 0, none⟩ v0).setCell ⟨b, 1, none⟩ v1).setCell ⟨b, 2, none⟩ v2).setCell ⟨b, 3, none⟩ v3).setCell ⟨b, 4, none⟩ v4).setCell ⟨b, 5, none⟩ v5).setCell ⟨b, 6, none⟩ v6) b 7 _ _ v7 h6
  have h8 := heap_setCell_same ((((((((W.setCell ⟨b, 0, none⟩ v0).setCell ⟨b, 1, none⟩ v1).setCell ⟨b, 2, none⟩ v2).setCell ⟨b, 3, none⟩ v3).setCell ⟨b, 4, none⟩ v4).setCell ⟨b, 5, none⟩ v5).setCell ⟨b, 6, none⟩ v6).setCell ⟨b, 7, none⟩ v7) b 8 _ _ v8 h7
  have h9 := heap_setCell_same (((((((((W.setCell ⟨b, 0, none⟩ v0).setCell ⟨b, 1, none⟩ v1).setCell ⟨b, 2, none⟩ v2).setCell ⟨b, 3, none⟩ v3).setCell ⟨b, 4, none⟩ v4).setCell ⟨b, 5, none⟩ v5).setCell ⟨b, 6, none⟩ v6).setCell ⟨b, 7, none⟩ v7).setCell ⟨b, 8, none⟩ v8) b 9 _ _ v9 h8
  have h10 := heap_setCell_same ((((((((((W.setCell ⟨b, 0, none⟩ v0).setCell ⟨b, 1, none⟩ v1).setCell ⟨b, 2, none⟩ v2).setCell ⟨b, 3, none⟩ v3).setCell ⟨b, 4, none⟩ v4).setCell ⟨b, 5, none⟩ v5).setCell ⟨b, 6, none⟩ v6).setCell ⟨b, 7, none⟩ v7).setCell ⟨b, 8, none⟩ v8).setCell ⟨b, 9, none⟩ v9) b 10 _ _ v10 h9
  have h11 := heap_setCell_same (((((((((((W.setCell ⟨b, 0, none⟩ v0).setCell ⟨b, 1, none⟩ v1).setCell ⟨b, 2, none⟩ v2).setCell ⟨b, 3, none⟩ v3).setCell ⟨b, 4, none⟩ v4).setCell ⟨b, 5, none⟩ v5).setCell ⟨b, 6, none⟩ v6).setCell ⟨b, 7, none⟩ v7).setCell ⟨b, 8, none⟩ v8).setCell ⟨b, 9, none⟩ v9).setCell ⟨b, 10, none⟩ v10) b 11 _ _ v11 h10
  have h12 := heap_setCell_same ((((((((((((W.setCell ⟨b, 0, none⟩ v0).setCell ⟨b, 1, none⟩ v1).setCell ⟨b, 2, none⟩ v2).setCell ⟨b, 3, none⟩ v3).setCell ⟨b, 4, none⟩ v4).setCell ⟨b, 5, none⟩ v5).setCell ⟨b, 6, none⟩ v6).setCell ⟨b, 7, none⟩ v7).setCell ⟨b, 8, none⟩ v8).setCell ⟨b, 9, none⟩ v9).setCell ⟨b, 10, none⟩ v10).setCell ⟨b, 11, none⟩ v11) b 12 _ _ v12 h11
  simp only [zeroK, List.setIfInBounds_toArray, List.set_cons_zero, List.set_cons_succ] at h12
  exact ⟨h12, grown_trans (grown_trans (grown_trans (grown_trans (grown_trans (grown_trans (grown_trans (grown_trans (grown_trans (grown_trans (grown_trans (grown_trans (grown_setc _ b 0 v0) (grown_setc _ b 1 v1)) (grown_setc _ b 2 v2)) (grown_setc _ b 3 v3)) (grown_setc _ b 4 v4)) (grown_setc _ b 5 v5)) (grown_setc _ b 6 v6)) (grown_setc _ b 7 v7)) (grown_setc _ b 8 v8)) (grown_setc _ b 9 v9)) (grown_setc _ b 10 v10)) (grown_setc _ b 11 v11)) (grown_setc _ b 12 v12), by simp⟩
/-- The three results are stored. -/
theorem put15 {w W9 W' : World} {b0 b1 b2 N : Nat} {T0 T1 T2 : TypeId} {cs : Array Value} {x1 x2 u1 u2 : Value} {Wz : World} (hz : Wz.heap[b0]? = some (.cells cs T0 (0, 0)) ∧ W9.grownBy Wz (some b0) ∧ Wz.heap.size = W9.heap.size) (h1 : Boxed W9 b1 T1 x1) (h2 : Boxed W9 b2 T2 x2) (ho : b0 < b1 ∧ b1 < b2 ∧ b2 < N) (hb : Below b0 w W9) (h0 : b0 ≤ w.heap.size)
    (hw : W' = ((Wz.setCell ⟨b1, 0, none⟩ u1).setCell ⟨b2, 0, none⟩ u2).drew) :
    W'.heap[b0]? = some (.cells cs T0 (0, 0)) ∧ Boxed W' b1 T1 u1 ∧ Boxed W' b2 T2 u2 ∧ KeepsFrom N W9 W' ∧ Below b0 w W' := by
  subst hw
  have g1 : Boxed Wz b1 T1 x1 := (hz.2.1.block b1 h1.lt (fun e => by injection e with e; omega)).trans h1
  have g2 : Boxed Wz b2 T2 x2 := (hz.2.1.block b2 h2.lt (fun e => by injection e with e; omega)).trans h2
  have e1 : ∀ k, k ≠ b1 → k ≠ b2 → ((Wz.setCell ⟨b1, 0, none⟩ u1).setCell ⟨b2, 0, none⟩ u2).heap[k]? = Wz.heap[k]? := fun k h1 h2 => (Below.heap_setCell _ _ _ _ (by simpa using h2)).trans (Below.heap_setCell _ _ _ _ (by simpa using h1))
  have hzb : Below b0 w Wz := hb.grown hz.2.1 (by have := hb.size; omega) (fun j e => by injection e with e; omega)
  refine ⟨(e1 b0 (by omega) (by omega)).trans hz.1, (g1.set u1).other (by omega) u2, (g2.other (by omega) u1).set u2, ⟨by simp [hz.2.2], fun k o hk ho' _ => ?_⟩, ?_⟩
  · exact (e1 k (by omega) (by omega)).trans ((hz.2.1.block k (lt_of_heap ho') (fun e => by injection e with e; omega)).trans ho')
  · exact ((hzb.setCell (by simp; omega) u1).setCell (by simp; omega) u2).trans ⟨rfl, rfl, rfl, Nat.le_refl _, fun _ _ => rfl⟩

theorem put15n {w W9 W' : World} {b0 b1 b2 N : Nat} {T0 T1 T2 : TypeId} {cs : Array Value} {x1 x2 u1 u2 : Value} {Wz : World} (hz : Wz.heap[b0]? = some (.cells cs T0 (0, 0)) ∧ W9.grownBy Wz (some b0) ∧ Wz.heap.size = W9.heap.size) (h1 : Boxed W9 b1 T1 x1) (h2 : Boxed W9 b2 T2 x2) (ho : b0 < b1 ∧ b1 < b2 ∧ b2 < N) (hb : Below b0 w W9) (h0 : b0 ≤ w.heap.size)
    (hw : W' = ((Wz.setCell ⟨b1, 0, none⟩ u1).setCell ⟨b2, 0, none⟩ u2)) :
    W'.heap[b0]? = some (.cells cs T0 (0, 0)) ∧ Boxed W' b1 T1 u1 ∧ Boxed W' b2 T2 u2 ∧ KeepsFrom N W9 W' ∧ Below b0 w W' := by
  subst hw
  have g1 : Boxed Wz b1 T1 x1 := (hz.2.1.block b1 h1.lt (fun e => by injection e with e; omega)).trans h1
  have g2 : Boxed Wz b2 T2 x2 := (hz.2.1.block b2 h2.lt (fun e => by injection e with e; omega)).trans h2
  have e1 : ∀ k, k ≠ b1 → k ≠ b2 → ((Wz.setCell ⟨b1, 0, none⟩ u1).setCell ⟨b2, 0, none⟩ u2).heap[k]? = Wz.heap[k]? := fun k h1 h2 => (Below.heap_setCell _ _ _ _ (by simpa using h2)).trans (Below.heap_setCell _ _ _ _ (by simpa using h1))
  have hzb : Below b0 w Wz := hb.grown hz.2.1 (by have := hb.size; omega) (fun j e => by injection e with e; omega)
  refine ⟨(e1 b0 (by omega) (by omega)).trans hz.1, (g1.set u1).other (by omega) u2, (g2.other (by omega) u1).set u2, ⟨by simp [hz.2.2], fun k o hk ho' _ => ?_⟩, ?_⟩
  · exact (e1 k (by omega) (by omega)).trans ((hz.2.1.block k (lt_of_heap ho') (fun e => by injection e with e; omega)).trans ho')
  · exact (hzb.setCell (by simp; omega) u1).setCell (by simp; omega) u2

theorem Rows.weak {B B' : Nat} {L : List Row} {W : World} (h : Rows B L W) (hb : B' ≤ B) : Rows B' L W := ⟨fun R hR => by
  rcases h.own R hR with ⟨h1, h2 | ⟨g, cap, cur, h3, h4, h5⟩⟩
  · exact ⟨h1, .inl h2⟩
  · exact ⟨h1, .inr ⟨g, cap, cur, h3, Nat.le_trans hb h4, h5⟩⟩, h.apart⟩
theorem Rows.put {B D : Nat} {L : List Row} {W : World} {o : Obj} (h : Rows B L W) (o' : Obj) (hl : W.heap[D]? = some o) (ho : o.isCells = false) : Rows B L (W.putObj D o') := ⟨fun R hR => ownsRow_putObj (h.own R hR) o' hl ho, h.apart⟩

end Go.Proofs.YtpofbhaipeiegaaGreatDoor
