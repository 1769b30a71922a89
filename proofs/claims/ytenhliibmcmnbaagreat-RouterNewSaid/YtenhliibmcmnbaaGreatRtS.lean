/-
  What a speaker is that has just been made; small laws on blocks.
-/
import Derived.Test.YtenhliibmcmnbaaGreatRtC
import Derived.Laws.MakeOwn
namespace Go.Proofs.YtenhliibmcmnbaaGreat
set_option linter.unusedSimpArgs false
set_option linter.unusedVariables false
open Go.RowKit Go.Sort

theorem Kp.grown {X : List Nat} {W W1 W2 : World} {r : Option Nat} (h : Kp X W W1) (hg : W1.grownBy W2 r) (hr : ∀ b, r = some b → b ∈ X ∨ W.heap.size ≤ b) : Kp X W W2 :=
  ⟨hg.os.trans h.os, hg.tape.trans h.tape, hg.output.trans h.output, Nat.le_trans h.size hg.size, fun k hk hn => (hg.block k (Nat.lt_of_lt_of_le hk h.size) (fun e => (hr k e.symm).elim hn (fun h => by omega))).trans (h.blk k hk hn)⟩
theorem Bl.grown {T : TypeId} {b : Nat} {cs : Array Value} {w w' : World} {r : Option Nat} (h : Bl T b cs w) (hg : w.grownBy w' r) (hne : some b ≠ r) : Bl T b cs w' := (hg.block b h.lt hne).trans h
theorem Bl.ne {T T' : TypeId} {b c : Nat} {cs cs' : Array Value} {w : World} (h : Bl T b cs w) (g : Bl T' c cs' w) (hs : cs.size ≠ cs'.size) : b ≠ c := by
  rintro rfl
  unfold Bl at h g
  rw [h] at g
  injection g with g
  injection g with g1 _ _
  exact hs (by rw [g1])
/-- A speaker that has just been made: its topology, its database with its own advertisement. -/
def SpkAt (t : Topo) (v : Int) (sb : Nat) (w : World) : Prop :=
  ∃ (db mb : Nat) (B1 B2 : Option Addr) (d1 d2 : Nat) (x3 x4 x5 x6 x7 x8 x9 x10 x11 x13 x14 : Value), Bl 160 sb #[.int .i64 t.n, .slice B1 t.ov.length d1, .slice B2 t.ls.length d2, x3, x4, x5, x6, x7, x8, x9, x10, x11, .pointer (some ⟨db, 0, none⟩), x13, x14] w ∧ TAt w B1 B2 t ∧ Bl 242 db #[.map (some mb)] w ∧ MapAt Tryz.prog 3 mb [(.int .i64 v, heldV v (over t v))] w
theorem SpkAt.up {t : Topo} {v : Int} {sb : Nat} {w w' : World} (h : SpkAt t v sb w) (hb : Below w.heap.size w w') : SpkAt t v sb w' := by
  obtain ⟨db, mb, B1, B2, d1, d2, x3, x4, x5, x6, x7, x8, x9, x10, x11, x13, x14, h1, h2, h3, h4⟩ := h
  exact ⟨db, mb, B1, B2, d1, d2, x3, x4, x5, x6, x7, x8, x9, x10, x11, x13, x14, h1.up hb, h2.below hb, h3.up hb, h4.up hb⟩
/-- make([]bool, n): the world behind it. -/
def mkW (n : Nat) (w : World) : World := w.alloc (.cells (madeCells #[.bool false] n) 4)
theorem boolInfoR : (Tryz.prog.info? 4).map (fun i => (i.zero, i.size, i.bytes)) = some (some (.bool false), 1, 1) := by kernel_rfl
theorem run_mkW (n : Nat) (h : n ≤ 1000000) (w : World) : (Instr.makeSlice 22 (.int .i64 (n : Int)) (.int .i64 (n : Int))).run Tryz.prog w = .ok (.slice (some ⟨w.heap.size, 0, none⟩) n n) (mkW n w) := by
  obtain ⟨i0, hi, hz0, hz1, hz2⟩ := info_parts boolInfoR
  have hr := run_make (P := Tryz.prog) w 22 4 i0 (.bool false) Tryz.underlying22 hi hz0 .i64 .i64 (n : Int) (n : Int) (by omega) (Int.le_refl _) (by rw [hz2]; omega) (by omega)
  rw [hr, hz1, show ((n : Int)).toNat = n by omega, Nat.mul_one]
  rfl
theorem mkW_below (n : Nat) (w : World) : Below w.heap.size w (mkW n w) := below_box w _
theorem mkW_own (n : Nat) (h : n ≤ 1000000) (w : World) (base : Nat) (hb : base ≤ w.heap.size) : (mkW n w).ownsRow base 4 1 (.slice (some ⟨w.heap.size, 0, none⟩) n n) n ((List.replicate n false).map Value.bool) := by
  refine ⟨by simp, .inr ⟨w.heap.size, n, _, by simp, hb, heap_alloc_new w _, by simp, by unfold maxLen; omega, by simp [size_madeCells], ?_⟩⟩
  rw [toList_madeCells_one]
  simp
/-- A store into a row of one's own. -/
theorem own_store {w : World} {base g n c k : Nat} {E : TypeId} {bs : List Bool} (ho : w.ownsRow base E 1 (.slice (some ⟨g, 0, none⟩) n c) n (bs.map Value.bool)) (hk : k < n) (b : Bool) :
    (∃ u, w.cell? ⟨g, k, none⟩ = some (.bool u)) ∧ w.frozen? ⟨g, k, none⟩ = false ∧ base ≤ g ∧ (w.setCell ⟨g, k, none⟩ (.bool b)).ownsRow base E 1 (.slice (some ⟨g, 0, none⟩) n c) n ((bs.set k b).map Value.bool) := by
  have hl : bs.length = n := by have := ho.1; simpa using this
  have hc : w.cell? ⟨g, k, none⟩ = some (.bool (bs[k]'(by omega))) := by rw [ho.cellAt k (by omega)]; simp [show k < bs.length by omega]
  refine ⟨⟨_, hc⟩, ho.frozenAt k, (ho.lt g rfl).1, ?_⟩
  rw [List.map_set]
  simpa using (ho.stored k (.bool b)).1

end Go.Proofs.YtenhliibmcmnbaaGreat
