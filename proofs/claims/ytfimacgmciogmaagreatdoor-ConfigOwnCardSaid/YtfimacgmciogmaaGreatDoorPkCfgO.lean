/-
  config's parser: the configuration that is being read, in memory.
  config's parser: node.
  config's parser: ends (printed by gen_cfgp.py).
  config's parser: let (printed by gen_cfgq.py).
-/
import Derived.Test.YtfimacgmciogmaaGreatDoorPkCfgJ
namespace Go.Proofs.YtfimacgmciogmaaGreatDoor
set_option linter.unusedSimpArgs false
set_option linter.unusedVariables false
open Go.RowKit Go.Shelf Go.Sort
/-! Rows that the code owns. -/
structure Row where
 e : TypeId
 s : Nat
 A : Option Addr
 c : Nat
 n : Nat
 xs : List Value
structure Rows (B : Nat) (L : List Row) (W : World) : Prop where
 own : ∀ R ∈ L, W.ownsRow B R.e R.s (.slice R.A R.n R.c) R.n R.xs
 apart : L.Pairwise (fun R S => ∀ g, fldA R.A = some g → fldA S.A ≠ some g)
theorem Rows.lt {B : Nat} {L : List Row} {W : World} (h : Rows B L W) {R : Row} (hR : R ∈ L) {g : Nat} (hg : fldA R.A = some g) : B ≤ g ∧ g < W.heap.size := (h.own R hR).lt g (by rw [ownBlock_A]; exact hg)
theorem Rows.keep {B : Nat} {L : List Row} {W W' : World} (h : Rows B L W) (hb : ∀ g, B ≤ g → g < W.heap.size → W'.heap[g]? = W.heap[g]?) : Rows B L W' :=
 ⟨fun R hR => own_keepG (h.own R hR) fun g e => by rw [ownBlock_A] at e; have := h.lt hR e; exact hb g this.1 this.2, h.apart⟩
theorem Rows.push {B g cap m : Nat} {L1 L2 : List Row} {R : Row} {W w1 : World} {tmp : Obj} {news : List Value} (h : Rows B (L1 ++ R :: L2) W)
  (hown : w1.ownsRow B R.e R.s (.slice (some ⟨g, 0, none⟩) (R.n + m) cap) (R.n + m) (R.xs ++ news)) (hg : (W.alloc tmp).grownBy w1 (Value.slice R.A R.n R.c).ownBlock) (hat : (Value.slice R.A R.n R.c).ownBlock = some g ∨ g = (W.alloc tmp).heap.size) :
  Rows B (L1 ++ ⟨R.e, R.s, some ⟨g, 0, none⟩, cap, R.n + m, R.xs ++ news⟩ :: L2) w1 := by
 rw [ownBlock_A] at hg hat
 have hsz : (W.alloc tmp).heap.size = W.heap.size + 1 := by simp
 have ap := List.pairwise_append.1 h.apart
 have ap2 := List.pairwise_cons.1 ap.2.1
 have hkeep : ∀ S ∈ L1 ++ R :: L2, (∀ g', fldA S.A = some g' → fldA R.A ≠ some g') → w1.ownsRow B S.e S.s (.slice S.A S.n S.c) S.n S.xs := fun S hS hne => own_keepG (h.own S hS) fun g' e => by
  rw [ownBlock_A] at e
  have := h.lt hS e
  exact (hg.block g' (by omega) (fun e' => hne g' e e'.symm)).trans (Below.heap_alloc W _ _ this.2)
 have hfar : ∀ S ∈ L1 ++ R :: L2, (∀ g', fldA S.A = some g' → fldA R.A ≠ some g') → fldA S.A ≠ some g := fun S hS hne e => by
  rcases hat with hat | hat
  ·exact hne g e hat
  ·have := (h.lt hS e).2; omega
 have n1 : ∀ S ∈ L1, ∀ g', fldA S.A = some g' → fldA R.A ≠ some g' := fun S hS => ap.2.2 S hS R (by simp)
 have n2 : ∀ S ∈ L2, ∀ g', fldA S.A = some g' → fldA R.A ≠ some g' := fun S hS g' e e' => ap2.1 S hS g' e' e
 refine ⟨fun S hS => ?_, List.pairwise_append.2 ⟨ap.1, List.pairwise_cons.2 ⟨fun S hS g' e e' => ?_, ap2.2⟩, fun S hS T hT => ?_⟩⟩
 ·rcases List.mem_append.1 hS with hS | hS
  ·exact hkeep S (by simp [hS]) (n1 S hS)
  ·rcases List.mem_cons.1 hS with rfl | hS
   ·exact hown
   ·exact hkeep S (by simp [hS]) (n2 S hS)
 ·simp only [fldA, Option.some.injEq] at e
  subst e
  exact hfar S (by simp [hS]) (n2 S hS) e'
 ·rcases List.mem_cons.1 hT with rfl | hT
  ·intro g' e e'
   simp only [fldA, Option.some.injEq] at e'
   subst e'
   exact hfar S (by simp [hS]) (n1 S hS) e
  ·exact ap.2.2 S hS T (by simp [hT])
/-- What the statements keep: all blocks below B but those of X, and whatever holds no cells. -/
structure LoM (B : Nat) (X : List Nat) (W W' : World) : Prop where
 os : W'.os = W.os
 tape : W'.tape = W.tape
 output : W'.output = W.output
 size : W.heap.size ≤ W'.heap.size
 blk : ∀ k, k < B → k ∉ X → W'.heap[k]? = W.heap[k]?
 oth : ∀ (k : Nat) (o : Obj), k ∉ X → W.heap[k]? = some o → o.isCells = false → W'.heap[k]? = some o
theorem LoM.trans {B : Nat} {X : List Nat} {W1 W2 W3 : World} (h : LoM B X W1 W2) (g : LoM B X W2 W3) : LoM B X W1 W3 :=
 ⟨g.os.trans h.os, g.tape.trans h.tape, g.output.trans h.output, Nat.le_trans h.size g.size, fun k hk hn => (g.blk k hk hn).trans (h.blk k hk hn), fun k o hn hk ho => g.oth k o hn (h.oth k o hn hk ho) ho⟩
theorem LoP.toM {B : Nat} {X Y : List Nat} {W W' : World} (h : LoP B X W W') (hs : ∀ b ∈ X, b ∈ Y) : LoM B Y W W' :=
 ⟨h.os, h.tape, h.output, h.size, fun k hk hn => h.blk k hk (fun hm => hn (hs k hm)), fun k o _ hk ho => h.oth k o hk ho⟩
theorem LoN.toM {B pb : Nat} {Y : List Nat} {W W' : World} (h : LoN pb W W') (hB : B ≤ W.heap.size) (hp : pb ∈ Y) : LoM B Y W W' := (LoP.weak h hB).toM (by simpa using hp)
theorem LoM.ofMap {B b : Nat} {Y : List Nat} {W W' : World} (hg : W.grownBy W' (some b)) (hB : B ≤ W.heap.size) (hp : b ∈ Y) : LoM B Y W W' :=
 ⟨hg.os, hg.tape, hg.output, hg.size, fun k hk hn => hg.block k (by omega) (fun e => by injection e with e; subst e; exact hn hp), fun k o hn hk _ => (hg.block k (Array.getElem?_eq_some_iff.1 hk).1 (fun e => by injection e with e; subst e; exact hn hp)).trans hk⟩
/-! The configuration. -/
structure Cf where
 names : List (List UInt8)
 lnames : List (List UInt8)
 links : List Lnk
 pfx : List (Int × Int × Int)
 pols : List (Int × Int × List (Int × Int))
 dems : List (Int × Int × Int × Int)
 tm : List Int
 ov : List Bool
 sym : SymS
 giv : List Bool
 /- the keys of the two other maps -/
 xk : List (Int × Int)
 yk : List (Int × Int)
def lkV (l : Lnk) : List Value := [.int .i64 l.a, .int .i64 l.b, .int .i64 l.c0, .int .i64 l.c1, .int .i64 l.cap, .int .i64 l.dl, .int .i64 l.g]
def pfV (p : Int × Int × Int) : List Value := [.int .u32 p.1, .int .i64 p.2.1, .int .i64 p.2.2]
def sgV (s : Int × Int) : List Value := [.int .i64 s.1, .int .i64 s.2]
def dmV (d : Int × Int × Int × Int) : List Value := [.int .i64 d.1, .int .i64 d.2.1, .int .i64 d.2.2.1, .int .i64 d.2.2.2]
def plV (x : (Int × Int × List (Int × Int)) × (Option Addr × Nat)) : List Value := [.int .i64 x.1.1, .int .i64 x.1.2.1, .slice x.2.1 x.1.2.2.length x.2.2]
structure Rws where
 aN : Option Addr
 cN : Nat
 aL : Option Addr
 cL : Nat
 aK : Option Addr
 cK : Nat
 aP : Option Addr
 cP : Nat
 aQ : Option Addr
 cQ : Nat
 aD : Option Addr
 cD : Nat
 aO : Option Addr
 cO : Nat
 ls : List (Option Addr × Nat)
 /- other rows that abide -/
 ex : List Row
def kOf (r : Rws) (c : Cf) (sb xb yb : Nat) : List Value :=
 [.slice r.aN c.names.length r.cN, .slice r.aL c.lnames.length r.cL, .int .i64 0, .slice none 0 0, .slice r.aK c.links.length r.cK, .slice r.aP c.pfx.length r.cP, .slice r.aQ c.pols.length r.cQ, .slice r.aD c.dems.length r.cD,
  .int .i64 (c.tm.getD 0 0), .int .i64 (c.tm.getD 1 0), .int .i64 (c.tm.getD 2 0), .int .i64 (c.tm.getD 3 0), .int .i64 (c.tm.getD 4 0),
  .slice r.aO c.ov.length r.cO, .map (some sb), .map (some xb), .map (some yb),
  .bool (c.giv.getD 0 false), .bool (c.giv.getD 1 false), .bool (c.giv.getD 2 false), .bool (c.giv.getD 3 false), .bool (c.giv.getD 4 false)]
def rowsOf (r : Rws) (c : Cf) : List Row :=
 [⟨9, 1, r.aN, r.cN, c.names.length, c.names.map strW⟩, ⟨9, 1, r.aL, r.cL, c.lnames.length, c.lnames.map strW⟩, ⟨44, 7, r.aK, r.cK, c.links.length, c.links.flatMap lkV⟩,
  ⟨72, 3, r.aP, r.cP, c.pfx.length, c.pfx.flatMap pfV⟩, ⟨76, 3, r.aQ, r.cQ, c.pols.length, (c.pols.zip r.ls).flatMap plV⟩, ⟨81, 4, r.aD, r.cD, c.dems.length, c.dems.flatMap dmV⟩,
  ⟨4, 1, r.aO, r.cO, c.ov.length, c.ov.map Value.bool⟩] ++ (r.ex ++ (c.pols.zip r.ls).map fun x => ⟨78, 2, x.2.1, x.2.2, x.1.2.2.length, x.1.2.2.flatMap sgV⟩)
def pfxL (l : List (Int × Int)) : List (Value × Value) := l.map fun p => (.agg #[.int .u32 p.1, .int .i64 p.2], .bool true)
def polL (l : List (Int × Int)) : List (Value × Value) := l.map fun p => (.agg #[.int .i64 p.1, .int .i64 p.2], .bool true)
/-- What holds of a configuration that is being read. -/
structure Lim (c : Cf) : Prop where
 names : c.names.length ≤ 64
 lnames : c.lnames.length ≤ 256
 links : c.links.length ≤ c.lnames.length
 pfx : c.pfx.length ≤ 100000
 pols : c.pols.length ≤ 64
 dems : c.dems.length ≤ 64
 ov : c.ov.length ≤ c.names.length
 tm : c.tm.length = 5
 giv : c.giv.length = 5
 sy : ∀ x ∈ c.sym, inI x.2.2
/-- The parser between two lines. -/
structure St (B pb sb xb yb : Nat) (r : Rws) (c : Cf) (wv : Value) (i : Nat) (dry : Bool) (W : World) : Prop where
 blk : W.heap[pb]? = some (.cells (pcells (kOf r c sb xb yb) wv i dry) 52 (0, 0))
 rows : Rows B (rowsOf r c) W
 sm : MapAt Tryz.prog 9 sb (symV c.sym) W
 xm : MapAt Tryz.prog 70 xb (pfxL c.xk) W
 ym : MapAt Tryz.prog 42 yb (polL c.yk) W
 lim : Lim c
 ll : r.ls.length = c.pols.length
 bl : (pb < B ∧ sb < B ∧ xb < B ∧ yb < B) ∧ sb ≠ xb ∧ sb ≠ yb ∧ xb ≠ yb
 sz : B ≤ W.heap.size
theorem pc_setk {k : List Value} {wv : Value} {i : Nat} {dry : Bool} (h : k.length = 22) {j : Nat} (hj : j < 22) (v : Value) : (pcells k wv i dry).setIfInBounds j v = pcells (k.set j v) wv i dry := by
 unfold pcells
 rw [List.setIfInBounds_toArray, List.set_append_left _ _ (by omega)]
theorem kOf_len (r : Rws) (c : Cf) (sb xb yb : Nat) : (kOf r c sb xb yb).length = 22 := rfl
section
variable {B pb sb xb yb : Nat} {r r' : Rws} {c c' : Cf} {wv : Value} {i : Nat} {dry : Bool} {W w1 W' : World}
theorem St.cell (h : St B pb sb xb yb r c wv i dry W) (j : Nat) (hj : j < 22) : W.cell? ⟨pb, j, none⟩ = (kOf r c sb xb yb)[j]? := (Lib.cell_of_heap h.blk j).trans (pc_k hj)
theorem St.frz (h : St B pb sb xb yb r c wv i dry W) (j : Nat) : W.frozen? ⟨pb, j, none⟩ = false := Lib.frozen_of_heap h.blk j
/-- Reading words keeps the configuration. -/
theorem St.read {A : Option Addr} {cw : Nat} {all rest : List (List UInt8)} (h : St B pb sb xb yb r c wv i dry W) (hl : LoN pb W W') (hp : PS pb (kOf r c sb xb yb) A cw all dry sb c.sym rest W') : St B pb sb xb yb r c (.slice A all.length cw) (all.length - rest.length) dry W' := by
 have hlt := h.bl.1
 have e : ∀ b, b ≠ pb → b < W.heap.size → W'.heap[b]? = W.heap[b]? := fun b hb hs => hl.blk b hs (by simpa using hb)
 have hpx : xb ≠ pb := fun e => by
  obtain ⟨es, cl, h1, _⟩ := h.xm
  rw [e, h.blk] at h1; cases h1
 have hpy : yb ≠ pb := fun e => by
  obtain ⟨es, cl, h1, _⟩ := h.ym
  rw [e, h.blk] at h1; cases h1
 exact ⟨hp.blk, h.rows.keep fun g h1 h2 => e g (by omega) h2, hp.sm, h.xm.kept (e xb hpx h.xm.lt), h.ym.kept (e yb hpy h.ym.lt), h.lim, h.ll, h.bl, Nat.le_trans h.sz hl.size⟩
/-- A push onto a row, and the store of the new slice. -/
theorem St.pushG {j : Nat} {v : Value} (h : St B pb sb xb yb r c wv i dry W) (hl : LoP B [] W w1) (hrows : Rows B (rowsOf r' c') w1) (hj : j < 22) (hk : kOf r' c' sb xb yb = (kOf r c sb xb yb).set j v) (e1 : c'.sym = c.sym) (e2 : c'.xk = c.xk) (e3 : c'.yk = c.yk) (hlim : Lim c') (hll : r'.ls.length = c'.pols.length) :
  St B pb sb xb yb r' c' wv i dry (w1.setCell ⟨pb, j, none⟩ v) ∧ LoM B [pb, sb, xb, yb] W (w1.setCell ⟨pb, j, none⟩ v) ∧ w1.cell? ⟨pb, j, none⟩ = (kOf r c sb xb yb)[j]? ∧ w1.frozen? ⟨pb, j, none⟩ = false := by
 have hlt := h.bl.1
 have hb1 : w1.heap[pb]? = W.heap[pb]? := hl.blk pb hlt.1 (by simp)
 have hblk := hb1.trans h.blk
 have hx : ∀ b, b ≠ pb → (w1.setCell ⟨pb, j, none⟩ v).heap[b]? = w1.heap[b]? := fun b hb => Below.heap_setCell _ _ _ _ (by simpa using hb)
 have hps : sb ≠ pb := fun e => by
  obtain ⟨es, cl, h1, _⟩ := h.sm
  rw [e, h.blk] at h1; cases h1
 have hpx : xb ≠ pb := fun e => by
  obtain ⟨es, cl, h1, _⟩ := h.xm
  rw [e, h.blk] at h1; cases h1
 have hpy : yb ≠ pb := fun e => by
  obtain ⟨es, cl, h1, _⟩ := h.ym
  rw [e, h.blk] at h1; cases h1
 refine ⟨⟨?_, hrows.keep fun g h1 h2 => hx g (by omega), ?_, ?_, ?_, hlim, hll, h.bl, by simpa using Nat.le_trans h.sz hl.size⟩, ?_, (Lib.cell_of_heap hblk j).trans (pc_k hj), Lib.frozen_of_heap hblk j⟩
 ·rw [heap_setCell_same _ _ _ _ _ _ hblk, pc_setk (kOf_len _ _ _ _ _) hj, hk]
 ·rw [e1]; exact h.sm.kept ((hx sb hps).trans (hl.blk sb hlt.2.1 (by simp)))
 ·rw [e2]; exact h.xm.kept ((hx xb hpx).trans (hl.blk xb hlt.2.2.1 (by simp)))
 ·rw [e3]; exact h.ym.kept ((hx yb hpy).trans (hl.blk yb hlt.2.2.2 (by simp)))
 ·exact (hl.toM (by simp)).trans ((LoP.setC (X := [pb]) hblk (.inl (by simp)) (Nat.le_trans h.sz hl.size) v).toM (by simp))
/-- A name is declared. -/
theorem St.symbolG {x : List UInt8} (a b : Int) (h : St B pb sb xb yb r c wv i dry W) (hm : lookS c.sym x = none) (hx : x.length ≤ 10000) (hv : inI b) :
  ∃ W', (Instr.mapUpdate 47 (.map (some sb)) (.string ⟨x.toArray⟩) (.agg #[.int .i64 a, .int .i64 b])).run Tryz.prog W = .ok () W' ∧ St B pb sb xb yb r { c with sym := c.sym ++ [(x, (a, b))] } wv i dry W' ∧ LoM B [pb, sb, xb, yb] W W' ∧ W.grownBy W' (some sb) := by
 obtain ⟨W', h1, h2, h3⟩ := h.sm.store key_str Tryz.underlying47 (keyS (P := Tryz.prog) Tryz.underlying9 (l := x) (by omega)) (.agg #[.int .i64 a, .int .i64 b]) (lookS_none hm)
 have hlt := h.bl.1
 have hs := h.sz
 have e : ∀ b, b ≠ sb → b < W.heap.size → W'.heap[b]? = W.heap[b]? := fun b hb hs => h3.block b hs (by simpa using hb)
 have hps : pb ≠ sb := fun e => by
  obtain ⟨es, cl, h1, _⟩ := h.sm
  rw [← e, h.blk] at h1; cases h1
 refine ⟨W', h1, ⟨(e pb hps (by omega)).trans h.blk, h.rows.keep fun g q1 q2 => e g (by omega) q2, ?_, h.xm.kept (e xb h.bl.2.1.symm h.xm.lt), h.ym.kept (e yb h.bl.2.2.1.symm h.ym.lt), ⟨h.lim.names, h.lim.lnames, h.lim.links, h.lim.pfx, h.lim.pols, h.lim.dems, h.lim.ov, h.lim.tm, h.lim.giv, ?_⟩, h.ll, h.bl, Nat.le_trans h.sz h3.size⟩, LoM.ofMap h3 hs (by simp), h3⟩
 ·have e2 : symV (c.sym ++ [(x, (a, b))]) = symV c.sym ++ [(.string ⟨x.toArray⟩, .agg #[.int .i64 a, .int .i64 b])] := by simp [symV]
  rw [e2]; exact h2
 ·intro y hy
  rcases List.mem_append.1 hy with hy | hy
  ·exact h.lim.sy y hy
  ·simp at hy; subst hy; exact hv
theorem St.symbol {x : List UInt8} (a b : Int) (h : St B pb sb xb yb r c wv i dry W) (hm : lookS c.sym x = none) (hx : x.length ≤ 10000) (hv : inI b) :
  ∃ W', (Instr.mapUpdate 47 (.map (some sb)) (.string ⟨x.toArray⟩) (.agg #[.int .i64 a, .int .i64 b])).run Tryz.prog W = .ok () W' ∧ St B pb sb xb yb r { c with sym := c.sym ++ [(x, (a, b))] } wv i dry W' ∧ LoM B [pb, sb, xb, yb] W W' := by
 obtain ⟨W', h1, h2, h3, _⟩ := h.symbolG a b hm hx hv
 exact ⟨W', h1, h2, h3⟩
theorem St.ownN (h : St B pb sb xb yb r c wv i dry W) : W.ownsRow B 9 1 (.slice r.aN c.names.length r.cN) c.names.length (c.names.map strW) := h.rows.own ⟨9, 1, r.aN, r.cN, c.names.length, c.names.map strW⟩ (by simp [rowsOf])
theorem St.ownL (h : St B pb sb xb yb r c wv i dry W) : W.ownsRow B 9 1 (.slice r.aL c.lnames.length r.cL) c.lnames.length (c.lnames.map strW) := h.rows.own ⟨9, 1, r.aL, r.cL, c.lnames.length, c.lnames.map strW⟩ (by simp [rowsOf])
theorem St.ownK (h : St B pb sb xb yb r c wv i dry W) : W.ownsRow B 44 7 (.slice r.aK c.links.length r.cK) c.links.length (c.links.flatMap lkV) := h.rows.own ⟨44, 7, r.aK, r.cK, c.links.length, c.links.flatMap lkV⟩ (by simp [rowsOf])
theorem St.ownP (h : St B pb sb xb yb r c wv i dry W) : W.ownsRow B 72 3 (.slice r.aP c.pfx.length r.cP) c.pfx.length (c.pfx.flatMap pfV) := h.rows.own ⟨72, 3, r.aP, r.cP, c.pfx.length, c.pfx.flatMap pfV⟩ (by simp [rowsOf])
theorem St.ownQ (h : St B pb sb xb yb r c wv i dry W) : W.ownsRow B 76 3 (.slice r.aQ c.pols.length r.cQ) c.pols.length ((c.pols.zip r.ls).flatMap plV) := h.rows.own ⟨76, 3, r.aQ, r.cQ, c.pols.length, (c.pols.zip r.ls).flatMap plV⟩ (by simp [rowsOf])
theorem St.ownD (h : St B pb sb xb yb r c wv i dry W) : W.ownsRow B 81 4 (.slice r.aD c.dems.length r.cD) c.dems.length (c.dems.flatMap dmV) := h.rows.own ⟨81, 4, r.aD, r.cD, c.dems.length, c.dems.flatMap dmV⟩ (by simp [rowsOf])
theorem St.ownO (h : St B pb sb xb yb r c wv i dry W) : W.ownsRow B 4 1 (.slice r.aO c.ov.length r.cO) c.ov.length (c.ov.map Value.bool) := h.rows.own ⟨4, 1, r.aO, r.cO, c.ov.length, c.ov.map Value.bool⟩ (by simp [rowsOf])
theorem St.loA (h : St B pb sb xb yb r c wv i dry W) {e : TypeId} {s n : Nat} {v : Value} {xs : List Value} {tmp : Obj} (hrow : W.ownsRow B e s v n xs) (hg : (W.alloc tmp).grownBy w1 v.ownBlock) : LoP B [] W w1 := LoP.append hrow hg h.sz
/-- A node's name. -/
theorem St.pushN {x : List UInt8} {g cap : Nat} {tmp : Obj} (h : St B pb sb xb yb r c wv i dry W) (hown : w1.ownsRow B 9 1 (.slice (some ⟨g, 0, none⟩) (c.names.length + 1) cap) (c.names.length + 1) (c.names.map strW ++ [strW x]))
  (hg : (W.alloc tmp).grownBy w1 (Value.slice r.aN c.names.length r.cN).ownBlock) (hat : (Value.slice r.aN c.names.length r.cN).ownBlock = some g ∨ g = (W.alloc tmp).heap.size) (hlim : c.names.length < 64) :
  St B pb sb xb yb { r with aN := some ⟨g, 0, none⟩, cN := cap } { c with names := c.names ++ [x] } wv i dry (w1.setCell ⟨pb, 0, none⟩ (.slice (some ⟨g, 0, none⟩) (c.names.length + 1) cap)) ∧ LoM B [pb, sb, xb, yb] W (w1.setCell ⟨pb, 0, none⟩ (.slice (some ⟨g, 0, none⟩) (c.names.length + 1) cap)) ∧ w1.cell? ⟨pb, 0, none⟩ = some (.slice r.aN c.names.length r.cN) ∧ w1.frozen? ⟨pb, 0, none⟩ = false := by
 have hr := Rows.push (L1 := []) h.rows hown hg hat
 refine h.pushG (h.loA (h.rows.own _ (List.mem_cons_self ..)) hg) (r' := { r with aN := some ⟨g, 0, none⟩, cN := cap }) (c' := { c with names := c.names ++ [x] }) ?_ (by decide) (by simp [kOf]) rfl rfl rfl ⟨by simp; omega, h.lim.lnames, h.lim.links, h.lim.pfx, h.lim.pols, h.lim.dems, by have := h.lim.ov; simp; omega, h.lim.tm, h.lim.giv, h.lim.sy⟩ h.ll
 simpa [rowsOf] using hr
theorem St.pushL {x : List UInt8} {g cap : Nat} {tmp : Obj} (h : St B pb sb xb yb r c wv i dry W) (hown : w1.ownsRow B 9 1 (.slice (some ⟨g, 0, none⟩) (c.lnames.length + 1) cap) (c.lnames.length + 1) (c.lnames.map strW ++ [strW x]))
  (hg : (W.alloc tmp).grownBy w1 (Value.slice r.aL c.lnames.length r.cL).ownBlock) (hat : (Value.slice r.aL c.lnames.length r.cL).ownBlock = some g ∨ g = (W.alloc tmp).heap.size) (hlim : c.lnames.length < 256) :
  St B pb sb xb yb { r with aL := some ⟨g, 0, none⟩, cL := cap } { c with lnames := c.lnames ++ [x] } wv i dry (w1.setCell ⟨pb, 1, none⟩ (.slice (some ⟨g, 0, none⟩) (c.lnames.length + 1) cap)) ∧ LoM B [pb, sb, xb, yb] W (w1.setCell ⟨pb, 1, none⟩ (.slice (some ⟨g, 0, none⟩) (c.lnames.length + 1) cap)) ∧ w1.cell? ⟨pb, 1, none⟩ = some (.slice r.aL c.lnames.length r.cL) ∧ w1.frozen? ⟨pb, 1, none⟩ = false := by
 have hr := Rows.push (L1 := [_]) h.rows hown hg hat
 refine h.pushG (h.loA (h.rows.own _ (List.mem_cons_of_mem _ (List.mem_cons_self ..))) hg) (r' := { r with aL := some ⟨g, 0, none⟩, cL := cap }) (c' := { c with lnames := c.lnames ++ [x] }) ?_ (by decide) (by simp [kOf]) rfl rfl rfl ⟨h.lim.names, by simp; omega, by have := h.lim.links; simp; omega, h.lim.pfx, h.lim.pols, h.lim.dems, h.lim.ov, h.lim.tm, h.lim.giv, h.lim.sy⟩ h.ll
 simpa [rowsOf] using hr
end
end Go.Proofs.YtfimacgmciogmaaGreatDoor
namespace Go.Proofs.YtfimacgmciogmaaGreatDoor
set_option linter.unusedSimpArgs false
set_option linter.unusedVariables false
open Go.RowKit Go.Shelf Go.Sort
theorem cell_one_set (w : World) (a : Addr) (v x : Value) (t : TypeId) : ∀ j u, [x][j]? = some u → ((w.setCell a v).alloc (.cells #[x] t)).cell? ((⟨w.heap.size, 0, none⟩ : Addr).add j) = some u := by
 have := cell_one_new (w.setCell a v) x t
 rw [show (w.setCell a v).heap.size = w.heap.size by simp] at this
 exact this
theorem boolInfo' : (Tryz.prog.info? 4).map (fun i => (i.zero, i.size, i.bytes)) = some (some (.bool false), 1, 1) := by kernel_rfl
/-- A line that is being read. -/
structure LS (B pb sb xb yb : Nat) (r : Rws) (c : Cf) (A : Option Addr) (cw : Nat) (all : List (List UInt8)) (dry : Bool) (rest : List (List UInt8)) (W : World) : Prop where
 ps : PS pb (kOf r c sb xb yb) A cw all dry sb c.sym rest W
 st : St B pb sb xb yb r c (.slice A all.length cw) (all.length - rest.length) dry W
/-- How a statement ends. -/
def RetS (B pb sb xb yb : Nat) (r : Rws) (c : Cf) (A : Option Addr) (cw : Nat) (all : List (List UInt8)) (dry : Bool) (W : World) (res : Except Int Cf) (e : Ending) (W' : World) : Prop :=
 match res with
 | .ok c' => e = .returned (.tuple #[]) ∧ LoM B [pb, sb, xb, yb] W W' ∧ ∃ r' i, St B pb sb xb yb r' c' (.slice A all.length cw) i dry W' ∧ (dry = true → c' = c ∧ r' = r ∧ LoN pb W W') ∧ r'.ex = r.ex
 | .error x => e = .panicked [{ v := .iface 34 (.int .i64 x), recovered := false }] ∧ LoN pb W W'
theorem finP_true {dry dup full : Bool} {ws r : List (List UInt8)} (h : finP dry dup full ws = .ok (true, r)) : dry = false ∧ dup = false ∧ full = false ∧ r = [] := by
 cases ws with
 | cons _ _ => cases h
 | nil => cases dry <;> cases dup <;> cases full <;> simp [finP] at h ⊢ <;> exact h
theorem finP_false {dry dup full : Bool} {ws r : List (List UInt8)} (h : finP dry dup full ws = .ok (false, r)) : dry = true ∧ r = [] := by
 cases ws with
 | cons _ _ => cases h
 | nil => cases dry <;> cases dup <;> cases full <;> simp [finP] at h ⊢ <;> exact h
section
variable {B pb sb xb yb : Nat} {r : Rws} {c : Cf} {A : Option Addr} {cw : Nat} {all : List (List UInt8)} {dry : Bool} {rest rest' : List (List UInt8)} {W W' : World}
theorem LS.read (h : LS B pb sb xb yb r c A cw all dry rest W) (hp : PS pb (kOf r c sb xb yb) A cw all dry sb c.sym rest' W') (hl : LoN pb W W') : LS B pb sb xb yb r c A cw all dry rest' W' := ⟨hp, h.st.read hl hp⟩
theorem LS.up (h : LS B pb sb xb yb r c A cw all dry rest W) (hb : Below W.heap.size W W') : LS B pb sb xb yb r c A cw all dry rest W' := h.read (h.ps.up hb) (h.ps.up_lo hb)
theorem LS.lo (h : LS B pb sb xb yb r c A cw all dry rest W) (hl : LoN pb W W') : LoM B [pb, sb, xb, yb] W W' := hl.toM h.st.sz (by simp)
def effS (U : PR Bool) (c c' : Cf) : Except Int Cf := match U with | .error e => .error e | .ok (false, _) => .ok c | .ok (true, _) => .ok c'
def nodeS (dry : Bool) (c : Cf) (ws : List (List UInt8)) : Except Int Cf :=
 match nameS ws with
 | .error e => .error e
 | .ok (x, r) => effS (finP dry (lookS c.sym x).isSome (decide (c.names.length = 64)) (acceptS kOverload r).2) c { c with sym := c.sym ++ [(x, (1, (c.names.length : Int)))], names := c.names ++ [x], ov := c.ov ++ [(acceptS kOverload r).1] }
theorem St.pushO {wv : Value} {i : Nat} {x : Bool} {g cap : Nat} {w1 : World} {tmp : Obj} (h : St B pb sb xb yb r c wv i dry W) (hown : w1.ownsRow B 4 1 (.slice (some ⟨g, 0, none⟩) (c.ov.length + 1) cap) (c.ov.length + 1) (c.ov.map Value.bool ++ [Value.bool x]))
  (hg : (W.alloc tmp).grownBy w1 (Value.slice r.aO c.ov.length r.cO).ownBlock) (hat : (Value.slice r.aO c.ov.length r.cO).ownBlock = some g ∨ g = (W.alloc tmp).heap.size) (hlim : c.ov.length < c.names.length) :
  St B pb sb xb yb { r with aO := some ⟨g, 0, none⟩, cO := cap } { c with ov := c.ov ++ [x] } wv i dry (w1.setCell ⟨pb, 13, none⟩ (.slice (some ⟨g, 0, none⟩) (c.ov.length + 1) cap)) ∧ LoM B [pb, sb, xb, yb] W (w1.setCell ⟨pb, 13, none⟩ (.slice (some ⟨g, 0, none⟩) (c.ov.length + 1) cap)) ∧ w1.cell? ⟨pb, 13, none⟩ = some (.slice r.aO c.ov.length r.cO) ∧ w1.frozen? ⟨pb, 13, none⟩ = false := by
 have hr := Rows.push (L1 := [_, _, _, _, _, _]) (L2 := r.ex ++ (c.pols.zip r.ls).map fun x => ⟨78, 2, x.2.1, x.2.2, x.1.2.2.length, x.1.2.2.flatMap sgV⟩) (R := ⟨4, 1, r.aO, r.cO, c.ov.length, c.ov.map Value.bool⟩) h.rows hown hg hat
 refine h.pushG (h.loA (h.rows.own ⟨4, 1, r.aO, r.cO, c.ov.length, c.ov.map Value.bool⟩ (by simp [rowsOf])) hg) (r' := { r with aO := some ⟨g, 0, none⟩, cO := cap }) (c' := { c with ov := c.ov ++ [x] }) ?_ (by decide) (by simp [kOf]) rfl rfl rfl ⟨h.lim.names, h.lim.lnames, h.lim.links, h.lim.pfx, h.lim.pols, h.lim.dems, by simp; omega, h.lim.tm, h.lim.giv, h.lim.sy⟩ h.ll
 simpa [rowsOf] using hr
theorem accept_sp (w : List UInt8) : ∀ ws : List (List UInt8), w ≠ [] → (∃ q, ws = w :: q ∧ acceptS w ws = (true, q)) ∨ ((peekS ws == w) = false ∧ acceptS w ws = (false, ws))
 | [], hw => .inr ⟨by cases w with | nil => exact absurd rfl hw | cons _ _ => rfl, rfl⟩
 | x :: q, hw => by
  by_cases e : x = w
  ·subst e; exact .inl ⟨q, rfl, by simp [acceptS]⟩
  ·exact .inr ⟨by simpa [peekS] using e, by simp [acceptS, e]⟩
theorem cfg_accept {k : List Value} {sy : SymS} (h : PS pb k A cw all dry sb sy rest W) (w : List UInt8) (hw : w ≠ []) : Calls Tryz.prog 58 #[.pointer (some ⟨pb, 0, none⟩), .string ⟨w.toArray⟩] W fun e w' => e = .returned (.bool (acceptS w rest).1) ∧ PS pb k A cw all dry sb sy (acceptS w rest).2 w' ∧ LoN pb W w' := by
 rcases accept_sp w rest hw with ⟨q, rfl, e⟩ | ⟨h1, e⟩
 ·rw [e]; exact cfg_accept_yes h
 ·rw [e]
  refine (cfg_accept_no h h1).mono ?_
  rintro e w' ⟨rfl, hb⟩
  exact ⟨rfl, h.up hb, h.up_lo hb⟩
set_option maxHeartbeats 8000000 in
set_option maxRecDepth 100000 in
theorem cfg_node (h : LS B pb sb xb yb r c A cw all dry rest W) : Calls Tryz.prog 33 #[.pointer (some ⟨pb, 0, none⟩)] W (RetS B pb sb xb yb r c A cw all dry W (nodeS dry c rest)) := by
 obtain ⟨i0, hi, hz0, hz1, hz2⟩ := info_parts strInfo'
 obtain ⟨j0, hj, hj0, hj1, hj2⟩ := info_parts boolInfo'
 obtain ⟨V, hV⟩ : ∃ V, V = nodeS dry c rest := ⟨_, rfl⟩
 rw [← hV]
 have HV := Lib.hid hV
 have H0 := Lib.hid h
 clear hV h
 cases hn : namedB (peekS rest) with
 | false =>
  obtain rfl : V = .error 3 := by
   rw [HV.out]
   unfold nodeS
   cases rest with
   | nil => rfl
   | cons x q => simp only [nameS]; rw [if_neg (by rw [show namedB x = false from hn]; decide)]
  have HN := Lib.hid (cfg_name_no H0.out.ps hn)
  clear HV hn
  go_enter Tryz.func33, Tryz.ntmps33
  go_wp2_with (go_at_call 57; (with_reducible refine HN.out.mono ?_); rintro e w1 ⟨rfl, hl1⟩)
  exact ⟨rfl, rfl, hl1⟩
 | true =>
  obtain ⟨x, q, rfl⟩ : ∃ x q, rest = x :: q := by
   cases rest with
   | nil => cases hn
   | cons x q => exact ⟨x, q, rfl⟩
  have hxl : x.length ≤ 10000 := H0.out.ps.wl.2
  have HNM := Lib.hid (cfg_name_yes H0.out.ps hn)
  obtain ⟨P, hP⟩ : ∃ P, P = acceptS [111, 118, 101, 114, 108, 111, 97, 100] q := ⟨_, rfl⟩
  obtain ⟨o, q2⟩ := P
  obtain ⟨full, hfu⟩ : ∃ full, full = decide (c.names.length = 64) := ⟨_, rfl⟩
  have hfi : ((c.names.length : Int) == 64) = full := by
   rw [hfu]
   by_cases h : c.names.length = 64
   ·rw [h]; rfl
   ·rw [decide_eq_false h, beq_eq_false_iff_ne]; omega
  obtain ⟨U, hU⟩ : ∃ U, U = finP dry (lookS c.sym x).isSome full q2 := ⟨_, rfl⟩
  have HE : Hid (V = effS U c { c with sym := c.sym ++ [(x, (1, (c.names.length : Int)))], names := c.names ++ [x], ov := c.ov ++ [o] }) := Lib.hid (by
   rw [HV.out, hU]
   simp only [nodeS, nameS]
   rw [if_pos (show namedB x = true from hn)]
   simp only
   rw [show acceptS kOverload q = (o, q2) from hP.symm, ← hfu])
  have HA : Hid (∀ w9, PS pb (kOf r c sb xb yb) A cw all dry sb c.sym q w9 → Calls Tryz.prog 58 #[.pointer (some ⟨pb, 0, none⟩), .string ⟨#[111, 118, 101, 114, 108, 111, 97, 100]⟩] w9 fun e w' => e = .returned (.bool o) ∧ PS pb (kOf r c sb xb yb) A cw all dry sb c.sym q2 w' ∧ LoN pb w9 w') := Lib.hid (fun w9 hp => by
   have := cfg_accept hp [111, 118, 101, 114, 108, 111, 97, 100] (by decide)
   rw [← hP] at this
   exact this)
  have HD := Lib.hid (fun w9 (hp : PS pb (kOf r c sb xb yb) A cw all dry sb c.sym q2 w9) => cfg_declared hp x hxl)
  have HF : Hid (∀ w9, PS pb (kOf r c sb xb yb) A cw all dry sb c.sym q2 w9 → Calls Tryz.prog 59 #[.pointer (some ⟨pb, 0, none⟩), .bool (lookS c.sym x).isSome, .bool full] w9 (RetP pb (kOf r c sb xb yb) A cw all dry sb c.sym encB w9 U)) := Lib.hid (fun w9 hp => by rw [hU]; exact cfg_finish hp _ _)
  have HU := Lib.hid hU
  have HFU := Lib.hid hfu
  have HXL := Lib.hid hxl
  obtain ⟨dup, hdup⟩ : ∃ dup, dup = (lookS c.sym x).isSome := ⟨_, rfl⟩
  rw [← hdup] at HD HF
  have HDU := Lib.hid hdup
  clear hn hP hfu hU HV hdup
  cases U with
  | error e =>
   obtain rfl : V = .error e := HE.out
   go_enter Tryz.func33, Tryz.ntmps33
   go_wp2_with (first | (go_at_call 57; (with_reducible refine HNM.out.mono ?_); rintro e w1 ⟨rfl, hp1, hl1⟩; have H1 := Lib.hid (H0.out.read hp1 hl1); have HN1 := Lib.hid hl1; clear hp1 hl1) | (go_at_call 58; (with_reducible refine (HA.out _ H1.out.ps).mono ?_); rintro e w2 ⟨rfl, hp2, hl2⟩; have H2 := Lib.hid (H1.out.read hp2 hl2); have HN2 := Lib.hid (HN1.out.trans hl2); have b0 : w2.cell? ⟨pb, 0, none⟩ = some (.slice r.aN c.names.length r.cN) := H2.out.st.cell 0 (by decide); clear hp2 hl2) | (go_at_call 60; (with_reducible refine (HD.out _ H2.out.ps).mono ?_); rintro e w3 ⟨rfl, hb3⟩; have H3 := Lib.hid (H2.out.up hb3); have HN3 := Lib.hid (HN2.out.trans (LoN.below hb3)); clear hb3 b0) | (go_at_call 59; (with_reducible refine (HF.out _ H3.out.ps).mono ?_); rintro e w4 ⟨rfl, hl4⟩))
   exact ⟨rfl, rfl, (HN3.out.trans hl4)⟩
  | ok p =>
   obtain ⟨eff, q3⟩ := p
   cases eff with
   | false =>
    obtain rfl : V = .ok c := HE.out
    obtain ⟨hd, rfl⟩ := finP_false HU.out.symm
    have HDR := Lib.hid hd
    clear hd
    go_enter Tryz.func33, Tryz.ntmps33
    go_wp2_with (first | (go_at_call 57; (with_reducible refine HNM.out.mono ?_); rintro e w1 ⟨rfl, hp1, hl1⟩; have H1 := Lib.hid (H0.out.read hp1 hl1); have HN1 := Lib.hid hl1; clear hp1 hl1) | (go_at_call 58; (with_reducible refine (HA.out _ H1.out.ps).mono ?_); rintro e w2 ⟨rfl, hp2, hl2⟩; have H2 := Lib.hid (H1.out.read hp2 hl2); have HN2 := Lib.hid (HN1.out.trans hl2); have b0 : w2.cell? ⟨pb, 0, none⟩ = some (.slice r.aN c.names.length r.cN) := H2.out.st.cell 0 (by decide); clear hp2 hl2) | (go_at_call 60; (with_reducible refine (HD.out _ H2.out.ps).mono ?_); rintro e w3 ⟨rfl, hb3⟩; have H3 := Lib.hid (H2.out.up hb3); have HN3 := Lib.hid (HN2.out.trans (LoN.below hb3)); clear hb3 b0) | (go_at_call 59; (with_reducible refine (HF.out _ H3.out.ps).mono ?_); rintro e w4 ⟨rfl, hp4, hl4⟩; simp only [encB]; have H4 := Lib.hid (H3.out.read hp4 hl4); have HN4 := Lib.hid (HN3.out.trans hl4); clear hp4 hl4))
    go_end0
    exact ⟨rfl, HN4.out.toM H0.out.st.sz (by simp), r, _, H4.out.st, (fun _ => ⟨rfl, rfl, HN4.out⟩), rfl⟩
   | true =>
    obtain rfl : V = .ok { c with sym := c.sym ++ [(x, (1, (c.names.length : Int)))], names := c.names ++ [x], ov := c.ov ++ [o] } := HE.out
    obtain ⟨hd, hd2, hd3, rfl⟩ := finP_true HU.out.symm
    have HDR := Lib.hid hd
    have HMS : Hid (lookS c.sym x = none) := Lib.hid (Option.not_isSome_iff_eq_none.1 (by rw [hd2]; decide))
    have HLM : Hid (c.names.length < 64 ∧ c.ov.length ≤ c.names.length) := Lib.hid ⟨by have a := H0.out.st.lim.names; have b := HFU.out; rw [hd3] at b; have := of_decide_eq_false b.symm; omega, H0.out.st.lim.ov⟩
    clear hd hd2 hd3
    go_enter Tryz.func33, Tryz.ntmps33
    go_wp2_with (first | (go_at_call 57; (with_reducible refine HNM.out.mono ?_); rintro e w1 ⟨rfl, hp1, hl1⟩; have H1 := Lib.hid (H0.out.read hp1 hl1); have HN1 := Lib.hid hl1; clear hp1 hl1) | (go_at_call 58; (with_reducible refine (HA.out _ H1.out.ps).mono ?_); rintro e w2 ⟨rfl, hp2, hl2⟩; have H2 := Lib.hid (H1.out.read hp2 hl2); have HN2 := Lib.hid (HN1.out.trans hl2); have b0 : w2.cell? ⟨pb, 0, none⟩ = some (.slice r.aN c.names.length r.cN) := H2.out.st.cell 0 (by decide); clear hp2 hl2) | (go_at_call 60; (with_reducible refine (HD.out _ H2.out.ps).mono ?_); rintro e w3 ⟨rfl, hb3⟩; have H3 := Lib.hid (H2.out.up hb3); have HN3 := Lib.hid (HN2.out.trans (LoN.below hb3)); clear hb3 b0) | (go_at_call 59; (with_reducible refine (HF.out _ H3.out.ps).mono ?_); rintro e w4 ⟨rfl, hp4, hl4⟩; simp only [encB]; have H4 := Lib.hid (H3.out.read hp4 hl4); have HM4 : Hid (LoM B [pb, sb, xb, yb] W w4) := Lib.hid ((HN3.out.trans hl4).toM H0.out.st.sz (by simp)); have b14 : w4.cell? ⟨pb, 14, none⟩ = some (.map (some sb)) := H4.out.st.cell 14 (by decide); obtain ⟨w5, hsy, hs5, hm5⟩ := H4.out.st.symbol 1 (c.names.length : Int) HMS.out HXL.out (by have := HLM.out; unfold inI; omega); have H5 := Lib.hid hs5; have HM5 := Lib.hid (HM4.out.trans hm5); have HO5 : Hid (w5.ownsRow B 9 1 (.slice r.aN c.names.length r.cN) c.names.length (c.names.map strW)) := Lib.hid hs5.ownN; have b0 : w5.cell? ⟨pb, 0, none⟩ = some (.slice r.aN c.names.length r.cN) := hs5.cell 0 (by decide); clear hp4 hl4 hs5 hm5) | (at_builtin; refine wpList_append_lies _ rfl _ _ 23 rfl B 9 i0 (.string ⟨#[]⟩) 1 16 Tryz.underlying23 hi hz0 hz1 hz2 rfl (by decide) _ _ _ rfl (HO5.out.alloc _) ⟨_, 0, none⟩ 1 1 [.string ⟨x.toArray⟩] rfl rfl (cell_one_new _ _ _) (by intro u hu; simp at hu; subst hu; rfl) (by decide) (by have := HLM.out; unfold maxLen; omega) (by have := HLM.out; omega) (Nat.le_trans H5.out.sz (by simp)) _ rfl ?_; intro gg cap W9 ap1 ap2 ap3 ap4; obtain ⟨p1, p2, p3, p4⟩ := H5.out.pushN ap1 ap2 ap3 HLM.out.1; have H6 := Lib.hid p1; have HM6 := Lib.hid (HM5.out.trans p2); have HO6 : Hid ((W9.setCell ⟨pb, 0, none⟩ (.slice (some ⟨gg, 0, none⟩) (c.names.length + 1) cap)).ownsRow B 4 1 (.slice r.aO c.ov.length r.cO) c.ov.length (c.ov.map Value.bool)) := Lib.hid p1.ownO; have b13 : (W9.setCell ⟨pb, 0, none⟩ (.slice (some ⟨gg, 0, none⟩) (c.names.length + 1) cap)).cell? ⟨pb, 13, none⟩ = some (.slice r.aO c.ov.length r.cO) := p1.cell 13 (by decide); clear p1 p2 ap1 ap2 ap3 ap4) | (at_builtin; refine wpList_append_lies _ rfl _ _ 24 rfl B 4 j0 (.bool false) 1 1 Tryz.underlying24 hj hj0 hj1 hj2 rfl (by decide) _ _ _ rfl (HO6.out.alloc _) ⟨_, 0, none⟩ 1 1 [.bool o] rfl rfl (cell_one_set _ _ _ _ _) (by intro u hu; simp at hu; subst hu; rfl) (by decide) (by have := HLM.out; unfold maxLen; omega) (by have := HLM.out; omega) (Nat.le_trans H6.out.sz (by simp)) _ rfl ?_; intro gg cap W9 ap1 ap2 ap3 ap4; obtain ⟨p1, p2, p3, p4⟩ := H6.out.pushO ap1 ap2 ap3 (by have := HLM.out; simp; omega); have H7 := Lib.hid p1; have HM7 := Lib.hid (HM6.out.trans p2); skip; clear p1 p2 ap1 ap2 ap3 ap4))
    go_end0
    exact ⟨rfl, HM7.out, _, _, H7.out, (fun h => by rw [HDR.out] at h; cases h), rfl⟩
end
end Go.Proofs.YtfimacgmciogmaaGreatDoor
namespace Go.Proofs.YtfimacgmciogmaaGreatDoor
set_option linter.unusedSimpArgs false
set_option linter.unusedVariables false
open Go.RowKit Go.Shelf Go.Sort
def bindS {α β : Type} (U : Except Int (α × List (List UInt8))) (f : α → List (List UInt8) → Except Int β) : Except Int β := match U with | .error e => .error e | .ok (a, r) => f a r
def bindC {β : Type} (U : Except Int Unit) (v : Except Int β) : Except Int β := match U with | .error e => .error e | .ok _ => v
def endsS (dry : Bool) (sy : SymS) (ws : List (List UInt8)) : PR (Int × Int) :=
 bindS (expectS kFrom ws) fun _ r1 => bindS (useS dry sy 1 r1) fun a r2 => bindS (expectS kTo r2) fun _ r3 => bindS (useS dry sy 1 r3) fun b r4 => bindC (chkS dry (a != b) 1) (.ok ((a, b), r4))
def encII (p : Int × Int) : Value := .tuple #[.int .i64 p.1, .int .i64 p.2]
section
variable {pb : Nat} {k : List Value} {A : Option Addr} {cw : Nat} {all : List (List UInt8)} {dry : Bool} {sb : Nat} {sy : SymS} {rest : List (List UInt8)} {W : World}
theorem cfg_expect (h : PS pb k A cw all dry sb sy rest W) (w : List UInt8) (hw : w ≠ []) : Calls Tryz.prog 65 #[.pointer (some ⟨pb, 0, none⟩), .string ⟨w.toArray⟩] W (RetP pb k A cw all dry sb sy encU W (expectS w rest)) := by
 rcases accept_sp w rest hw with ⟨q, rfl, e⟩ | ⟨h1, e⟩
 ·have e2 : expectS w (w :: q) = .ok ((), q) := by simp [expectS]
  rw [e2]; exact cfg_expect_yes h
 ·have e2 : expectS w rest = .error 3 := by
   cases rest with
   | nil => rfl
   | cons x q => simp only [expectS]; rw [if_neg (by simpa [peekS] using h1)]
  rw [e2]; exact cfg_expect_no h h1
theorem cfg_name (h : PS pb k A cw all dry sb sy rest W) : Calls Tryz.prog 57 #[.pointer (some ⟨pb, 0, none⟩)] W (RetP pb k A cw all dry sb sy encS W (nameS rest)) := by
 cases hn : namedB (peekS rest) with
 | false =>
  have e2 : nameS rest = .error 3 := by
   cases rest with
   | nil => rfl
   | cons x q => simp only [nameS]; rw [if_neg (by rw [show namedB x = false from hn]; decide)]
  rw [e2]; exact cfg_name_no h hn
 | true =>
  cases rest with
  | nil => cases hn
  | cons x q =>
   have e2 : nameS (x :: q) = .ok (x, q) := by simp only [nameS]; rw [if_pos (show namedB x = true from hn)]
   rw [e2]; exact cfg_name_yes h hn
set_option maxHeartbeats 4000000 in
set_option maxRecDepth 100000 in
theorem cfg_ends (h : PS pb k A cw all dry sb sy rest W) : Calls Tryz.prog 61 #[.pointer (some ⟨pb, 0, none⟩)] W (RetP pb k A cw all dry sb sy encII W (endsS dry sy rest)) := by
 obtain ⟨V, hV⟩ : ∃ V, V = endsS dry sy rest := ⟨_, rfl⟩
 rw [← hV]
 simp only [endsS, kFrom, kTo] at hV
 have HV := Lib.hid hV
 have HP := Lib.hid h
 have HN := Lib.hid (LoN.refl pb W)
 clear hV h
 go_enter Tryz.func61, Tryz.ntmps61
 go_wp2_with (first | (go_at_call 65; (first | ((with_reducible refine (cfg_expect HP.out _ (by decide)).mono ?_))); (first | (rintro e w1 hr)); (first | (generalize hU : expectS _ _ = U at hr HV)); (first | (rcases U with c1 | ⟨v1, r1⟩)); (first | (focus (obtain ⟨rfl, hl1⟩ := hr; obtain rfl := HV.out; exact ⟨rfl, rfl, HN.out.trans hl1⟩))); (first | (obtain ⟨rfl, hp1, hl1⟩ := hr)); (first | (skip)); (first | (simp only [bindS] at HV)); (first | (skip)); (first | (replace HP := Lib.hid hp1)); (first | (replace HN := Lib.hid (HN.out.trans hl1))); (first | (skip)); (first | (clear hp1 hl1 hU))) | (go_at_call 68; (first | ((with_reducible refine (cfg_use HP.out 1).mono ?_))); (first | (rintro e w1 hr)); (first | (generalize hU : useS _ _ 1 _ = U at hr HV)); (first | (rcases U with c1 | ⟨v1, r1⟩)); (first | (focus (obtain ⟨rfl, hl1⟩ := hr; obtain rfl := HV.out; exact ⟨rfl, rfl, HN.out.trans hl1⟩))); (first | (obtain ⟨rfl, hp1, hl1⟩ := hr)); (first | (simp only [encI])); (first | (simp only [bindS] at HV)); (first | (skip)); (first | (replace HP := Lib.hid hp1)); (first | (replace HN := Lib.hid (HN.out.trans hl1))); (first | (skip)); (first | (clear hp1 hl1 hU))) | (go_at_call 77; (first | ((with_reducible refine (cfg_check HP.out _ 1).mono ?_))); (first | (rintro e w1 hr)); (first | (generalize hU : chkS _ _ 1 = U at hr HV)); (first | (unfold RetC at hr)); (first | (rw [hU] at hr)); (first | (clear hU)); (first | (rcases U with c1 | v1)); (first | (focus (obtain ⟨rfl, rfl⟩ := hr; obtain rfl := HV.out; exact ⟨rfl, rfl, HN.out⟩))); (first | (obtain ⟨rfl, rfl⟩ := hr)); (first | (simp only [bindC] at HV))))
 go_ret2
 obtain rfl := HV.out
 exact ⟨rfl, HP.out, HN.out⟩
end
end Go.Proofs.YtfimacgmciogmaaGreatDoor
namespace Go.Proofs.YtfimacgmciogmaaGreatDoor
set_option linter.unusedSimpArgs false
set_option linter.unusedVariables false
open Go.RowKit Go.Shelf Go.Sort
theorem combine_in {dry : Bool} {least : Nat} : ∀ {ops : List (List UInt8)} {vs : List Int} {os : List (List UInt8)} {us : List Int}, (∀ v ∈ vs, inI v) → combineS dry least ops vs = .ok (os, us) → ∀ v ∈ us, inI v
 | [], vs, os, us, h, e => by
  simp only [combineS] at e
  injection e with e
  injection e with e1 e2
  subst e2
  exact h
 | o :: ops, vs, os, us, h, e => by
  by_cases hr : rankS o < least
  ·rw [combineS_stop hr] at e
   injection e with e
   injection e with e1 e2
   subst e2
   exact h
  ·by_cases hn : o = oNeg
   ·subst hn
    cases vs with
    | nil => rw [combineS.eq_def] at e; simp only [if_neg hr, if_true] at e; cases e
    | cons x r =>
     rw [combineS_neg hr] at e
     exact combine_in (fun v hv => by
      rcases List.mem_cons.1 hv with rfl | hv
      ·exact inI_wrap _
      ·exact h v (by simp [hv])) e
   ·cases vs with
    | nil => rw [combineS.eq_def] at e; simp only [if_neg hr, if_neg hn] at e; cases e
    | cons x r =>
    cases r with
    | nil => rw [combineS.eq_def] at e; simp only [if_neg hr, if_neg hn] at e; cases e
    | cons y r =>
     rw [combineS_bin hr hn] at e
     cases hz : operateS dry o y x with
     | error c => rw [hz] at e; cases e
     | ok z =>
      rw [hz] at e
      exact combine_in (fun v hv => by
       rcases List.mem_cons.1 hv with rfl | hv
       ·exact operateS_in hz
       ·exact h v (by simp [hv])) e
theorem factor_in {dry : Bool} {sy : SymS} (hs : ∀ x ∈ sy, inI x.2.2) : ∀ {ws ops : List (List UInt8)} {vs : List Int} {os : List (List UInt8)} {us : List Int} {r : List (List UInt8)}, (∀ v ∈ vs, inI v) → factorS dry sy ws ops vs = .ok ((os, us), r) → ∀ v ∈ us, inI v
 | [], _, _, _, _, _, _, e => by cases e
 | w :: t, ops, vs, os, us, r, h, e => by
  simp only [factorS] at e
  split at e
  ·exact factor_in hs h e
  ·split at e
   ·exact factor_in hs h e
   ·split at e
    ·rename_i hd
     injection e with e
     injection e with e1 e2
     injection e1 with e1 e3
     subst e3
     intro v hv
     rcases List.mem_cons.1 hv with rfl | hv
     ·exact (digits_atoi hd).2
     ·exact h v hv
    ·cases hu : useS dry sy 3 (w :: t) with
     | error c => rw [hu] at e; cases e
     | ok p =>
      obtain ⟨v, r'⟩ := p
      rw [hu] at e
      injection e with e
      injection e with e1 e2
      injection e1 with e1 e3
      subst e3
      intro v' hv
      rcases List.mem_cons.1 hv with rfl | hv
      ·exact useS_in hs hu
      ·exact h v' hv
theorem close_in {dry : Bool} : ∀ {ws ops : List (List UInt8)} {vs : List Int} {os : List (List UInt8)} {us : List Int} {r : List (List UInt8)}, (∀ v ∈ vs, inI v) → closeS dry ws ops vs = .ok ((os, us), r) → ∀ v ∈ us, inI v
 | [], _, _, _, _, _, h, e => by
  simp only [closeS] at e
  injection e with e
  injection e with e1 e2
  injection e1 with e1 e3
  subst e3
  exact h
 | w :: t, ops, vs, os, us, r, h, e => by
  simp only [closeS] at e
  split at e
  ·cases hc : combineS dry 1 ops vs with
   | error c => rw [hc] at e; cases e
   | ok p =>
    obtain ⟨o2, v2⟩ := p
    rw [hc] at e
    exact close_in (combine_in h hc) e
  ·injection e with e
   injection e with e1 e2
   injection e1 with e1 e3
   subst e3
   exact h
theorem expr_in {dry : Bool} {sy : SymS} (hs : ∀ x ∈ sy, inI x.2.2) : ∀ {f : Nat} {ws ops : List (List UInt8)} {vs : List Int} {v : Int} {r : List (List UInt8)}, (∀ v ∈ vs, inI v) → exprF dry sy f ws ops vs = .ok (v, r) → inI v
 | 0, _, _, _, _, _, _, e => by cases e
 | f + 1, ws, ops, vs, v, r, h, e => by
  cases h1 : factorS dry sy ws ops vs with
  | error c => rw [exprF_e1 h1] at e; cases e
  | ok p1 =>
   obtain ⟨⟨o1, v1⟩, r1⟩ := p1
   cases h2 : closeS dry r1 o1 v1 with
   | error c => rw [exprF_e2 h1 h2] at e; cases e
   | ok p2 =>
    obtain ⟨⟨o2, v2⟩, r2⟩ := p2
    have i2 := close_in (factor_in hs h h1) h2
    by_cases h3 : rankS (peekS r2) = 0
    ·rw [exprF_end h1 h2 h3] at e
     unfold endS at e
     cases h4 : combineS dry 1 o2 v2 with
     | error c => rw [h4] at e; cases e
     | ok p3 =>
      obtain ⟨o3, v3⟩ := p3
      have i3 := combine_in i2 h4
      rw [h4] at e
      simp only at e
      by_cases ho : o3 = []
      ·rw [if_pos ho] at e
       injection e with e
       injection e with e _
       subst e
       rw [List.getLastD_eq_getLast?]
       cases h5 : v3.getLast? with
       | none => show inI 0; unfold inI; omega
       | some y => exact i3 y (List.mem_of_getLast? h5)
      ·rw [if_neg ho] at e; cases e
    ·cases h4 : combineS dry (rankS (peekS r2)) o2 v2 with
     | error c => rw [exprF_e3 h1 h2 h3 h4] at e; cases e
     | ok p3 =>
      obtain ⟨o3, v3⟩ := p3
      rw [exprF_go h1 h2 h3 h4] at e
      exact expr_in hs (combine_in i2 h4) e
theorem exprS_in {dry : Bool} {sy : SymS} {ws r : List (List UInt8)} {v : Int} (hs : ∀ x ∈ sy, inI x.2.2) (e : exprS dry sy ws = .ok (v, r)) : inI v := expr_in hs (fun v h => by cases h) e
theorem nameS_len {ws r : List (List UInt8)} {x : List UInt8} (h : nameS ws = .ok (x, r)) : x.length ≤ 10000 := by
 cases ws with
 | nil => cases h
 | cons w q =>
  simp only [nameS] at h
  split at h
  ·rename_i hn
   injection h with h
   injection h with h _
   subst h
   simp only [namedB, Bool.and_eq_true, decide_eq_true_eq] at hn
   omega
  ·cases h
def kEq : List UInt8 := [61]
def letS (dry : Bool) (c : Cf) (ws : List (List UInt8)) : Except Int Cf :=
 bindS (nameS ws) fun x r1 => bindS (expectS kEq r1) fun _ r2 => bindS (exprS dry c.sym r2) fun n r3 => effS (finP dry (lookS c.sym x).isSome false r3) c { c with sym := c.sym ++ [(x, (3, n))] }
theorem miss_of {sy : SymS} {x : List UInt8} {dry full : Bool} {ws r : List (List UInt8)} (h : finP dry (lookS sy x).isSome full ws = .ok (true, r)) : lookS sy x = none := Option.not_isSome_iff_eq_none.1 (by rw [(finP_true h).2.1]; decide)
section
variable {B pb sb xb yb : Nat} {r : Rws} {c : Cf} {A : Option Addr} {cw : Nat} {all : List (List UInt8)} {dry : Bool} {rest rest' : List (List UInt8)} {W W' : World}
set_option maxHeartbeats 4000000 in
set_option maxRecDepth 100000 in
theorem cfg_let (h : LS B pb sb xb yb r c A cw all dry rest W) : Calls Tryz.prog 35 #[.pointer (some ⟨pb, 0, none⟩)] W (RetS B pb sb xb yb r c A cw all dry W (letS dry c rest)) := by
 obtain ⟨V, hV⟩ : ∃ V, V = letS dry c rest := ⟨_, rfl⟩
 rw [← hV]
 simp only [letS, kEq] at hV
 have HV := Lib.hid hV
 have H0 := Lib.hid h
 have HP := Lib.hid h.ps
 have HN := Lib.hid (LoN.refl pb W)
 have HSY := Lib.hid h.st.lim.sy
 clear hV h
 go_enter Tryz.func35, Tryz.ntmps35
 go_wp2_with (first | (go_at_call 57; (first | ((with_reducible refine (cfg_name HP.out).mono ?_))); (first | (rintro e w1 hr)); (first | (generalize hU : nameS _ = U at hr HV)); (first | (rcases U with c1 | ⟨x, r1⟩)); (first | (focus (obtain ⟨rfl, hl1⟩ := hr; obtain rfl := HV.out; exact ⟨rfl, rfl, (HN.out.trans hl1)⟩))); (first | (obtain ⟨rfl, hp1, hl1⟩ := hr)); (first | (simp only [encS])); (first | (simp only [bindS] at HV)); (first | (have HXL := Lib.hid (nameS_len hU))); (first | (replace HP := Lib.hid hp1)); (first | (replace HN := Lib.hid (HN.out.trans hl1))); (first | (skip)); (first | (clear hp1 hl1 hU))) | (go_at_call 65; (first | ((with_reducible refine (cfg_expect HP.out _ (by decide)).mono ?_))); (first | (rintro e w1 hr)); (first | (generalize hU : expectS _ _ = U at hr HV)); (first | (rcases U with c1 | ⟨v1, r1⟩)); (first | (focus (obtain ⟨rfl, hl1⟩ := hr; obtain rfl := HV.out; exact ⟨rfl, rfl, (HN.out.trans hl1)⟩))); (first | (obtain ⟨rfl, hp1, hl1⟩ := hr)); (first | (skip)); (first | (simp only [bindS] at HV)); (first | (skip)); (first | (replace HP := Lib.hid hp1)); (first | (replace HN := Lib.hid (HN.out.trans hl1))); (first | (skip)); (first | (clear hp1 hl1 hU))) | (go_at_call 66; (first | ((with_reducible refine (cfg_expr HP.out HSY.out).mono ?_))); (first | (rintro e w1 hr)); (first | (generalize hU : exprS _ _ _ = U at hr HV)); (first | (rcases U with c1 | ⟨n, r1⟩)); (first | (focus (obtain ⟨rfl, hl1⟩ := hr; obtain rfl := HV.out; exact ⟨rfl, rfl, (HN.out.trans hl1)⟩))); (first | (obtain ⟨rfl, hp1, hl1⟩ := hr)); (first | (simp only [encI])); (first | (simp only [bindS] at HV)); (first | (have HVI := Lib.hid (exprS_in HSY.out hU))); (first | (replace HP := Lib.hid hp1)); (first | (replace HN := Lib.hid (HN.out.trans hl1))); (first | (skip)); (first | (clear hp1 hl1 hU))) | (go_at_call 60; (first | ((with_reducible refine (cfg_declared HP.out _ HXL.out).mono ?_))); (first | (rintro e w1 ⟨rfl, hb1⟩)); (first | (replace HN := Lib.hid (HN.out.trans (LoN.below hb1)))); (first | (replace HP := Lib.hid (HP.out.up hb1))); (first | (clear hb1))) | (go_at_call 59; (first | ((with_reducible refine (cfg_finish HP.out _ _).mono ?_))); (first | (rintro e w4 hr)); (first | (generalize hU : finP _ _ _ _ = U at hr HV)); (first | (rcases U with c1 | ⟨eff, r1⟩)); (first | (focus (obtain ⟨rfl, hl1⟩ := hr; obtain rfl := HV.out; exact ⟨rfl, rfl, (HN.out.trans hl1)⟩))); (first | (obtain ⟨rfl, hp1, hl1⟩ := hr)); (first | (simp only [encB])); (first | (replace HP := Lib.hid hp1)); (first | (replace HN := Lib.hid (HN.out.trans hl1))); (first | (clear hp1 hl1)); (first | (cases eff)); (first | (focus (have HDR := Lib.hid (finP_false hU).1; clear hU))); (first | (rotate_left)); (first | ((obtain ⟨w5, hsy, hs5, hm5⟩ := (H0.out.read HP.out HN.out).st.symbol 3 n (miss_of hU) HXL.out HVI.out; have b14 : w4.cell? ⟨pb, 14, none⟩ = some (.map (some sb)) := (H0.out.read HP.out HN.out).st.cell 14 (by decide); have H5 := Lib.hid hs5; have HM5 := Lib.hid hm5; have HDR := Lib.hid (finP_true hU).1; clear hs5 hm5 hU))); (first | (rotate_left))))
 ·go_end0
  obtain rfl := HV.out
  exact ⟨rfl, HN.out.toM H0.out.st.sz (by simp), _, _, (H0.out.read HP.out HN.out).st, (fun _ => ⟨rfl, rfl, HN.out⟩), rfl⟩
 ·go_end0
  obtain rfl := HV.out
  exact ⟨rfl, (HN.out.toM H0.out.st.sz (by simp)).trans HM5.out, _, _, H5.out, (fun h => by rw [HDR.out] at h; cases h), rfl⟩
end
end Go.Proofs.YtfimacgmciogmaaGreatDoor
