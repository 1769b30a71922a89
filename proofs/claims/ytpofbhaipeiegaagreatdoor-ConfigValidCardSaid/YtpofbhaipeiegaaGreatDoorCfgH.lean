/-
  config's parser: pushing onto the stacks; factor.
-/
import Derived.Test.YtpofbhaipeiegaaGreatDoorCfgG
import Derived.Test.YtpofbhaipeiegaaGreatDoorAtoi
import Derived.Test.YtpofbhaipeiegaaGreatDoorNum
namespace Go.Proofs.YtpofbhaipeiegaaGreatDoor
set_option linter.unusedSimpArgs false
set_option linter.unusedVariables false
open Go.RowKit Go.Shelf Go.Sort

theorem ne_types {W : World} {b b' : Nat} {e e' : TypeId} {n n' c c' : Nat} {A A' : Option Addr} {xs ys : List Value} (hv : W.ownsRow b e 1 (.slice A n c) n xs) (ho : W.ownsRow b' e' 1 (.slice A' n' c') n' ys) (hne : e ≠ e') : ∀ g, fldA A = some g → fldA A' ≠ some g := by
  intro g e1 e2
  rcases hv.2 with ⟨h0, _⟩ | ⟨g1, cap, cur, h0, _, hg, _⟩
  · injection h0 with h0; subst h0; cases e1
  rcases ho.2 with ⟨h1, _⟩ | ⟨g2, cap2, cur2, h1, _, hg2, _⟩
  · injection h1 with h1; subst h1; cases e2
  injection h0 with h0
  injection h1 with h1
  subst h0 h1
  simp only [fldA, Option.some.injEq] at e1 e2
  subst e1 e2
  rw [hg] at hg2
  injection hg2 with h
  injection h with _ h
  exact hne h
section
variable {stb : Nat} {ops : List (List UInt8)} {vs : List Int} {Av Ao : Option Addr} {cv co g cap : Nat} {W w1 : World} {tmp : Obj}
theorem SK.grown {e : TypeId} {n : Nat} {v : Value} {xs : List Value} (h : SK stb ops vs Av cv Ao co W) (hrow : W.ownsRow (stb + 1) e 1 v n xs) (hg : (W.alloc tmp).grownBy w1 v.ownBlock) : w1.heap[stb]? = W.heap[stb]? ∧ W.heap.size < w1.heap.size ∧ LoP stb [] W w1 := by
  have hlt := h.lt
  have hs := hg.size
  simp at hs
  exact ⟨(hg.block stb (by simp; omega) (fun e => by have := hrow.lt _ e.symm; omega)).trans (Below.heap_alloc W _ _ hlt), by omega, (LoP.append hrow hg (by omega)).weak (Nat.le_succ _)⟩
theorem SK.opush {x : List UInt8} (h : SK stb ops vs Av cv Ao co W) (hown : w1.ownsRow (stb + 1) 9 1 (.slice (some ⟨g, 0, none⟩) (ops.length + 1) cap) (ops.length + 1) (ops.reverse.map strW ++ [strW x])) (hg : (W.alloc tmp).grownBy w1 (Value.slice Ao ops.length co).ownBlock) :
    SK stb (x :: ops) vs Av cv (some ⟨g, 0, none⟩) cap (w1.setCell ⟨stb, 1, none⟩ (.slice (some ⟨g, 0, none⟩) (ops.length + 1) cap)) ∧ LoP stb [] W (w1.setCell ⟨stb, 1, none⟩ (.slice (some ⟨g, 0, none⟩) (ops.length + 1) cap)) ∧ w1.cell? ⟨stb, 1, none⟩ = some (.slice Ao ops.length co) ∧ w1.frozen? ⟨stb, 1, none⟩ = false := by
  obtain ⟨e1, e2, e3⟩ := h.grown h.ho hg
  rw [ownBlock_A] at hg
  have hst := e1.trans h.st
  have hv1 : w1.ownsRow (stb + 1) 3 1 (.slice Av vs.length cv) vs.length (vs.reverse.map (Value.int .i64)) := own_keepG h.hv fun g' e => by
    rw [ownBlock_A] at e
    exact (hg.block g' (by have := h.rows.1 g' e; simp; omega) (fun e' => h.ne g' e e'.symm)).trans (Below.heap_alloc W _ _ (h.rows.1 g' e).2)
  have ho1 : w1.ownsRow (stb + 1) 9 1 (.slice (some ⟨g, 0, none⟩) (x :: ops).length cap) (x :: ops).length ((x :: ops).reverse.map strW) := by
    rw [List.reverse_cons, List.map_append]; exact hown
  have hne := ne_types hv1 ho1 (by decide)
  refine ⟨⟨heap_setCell_same _ _ _ _ _ _ hst, own_setT hv1 (fun e => by have := hv1.lt _ e; omega) _, own_setT ho1 (fun e => by have := ho1.lt _ e; omega) _, hne, h.vb⟩, e3.trans (LoP.setC hst (.inr (Nat.le_refl _)) (by have := h.lt; omega) _), (Lib.cell_of_heap hst 1).trans rfl, Lib.frozen_of_heap hst 1⟩
theorem SK.vpush {x : Int} (hx : inI x) (h : SK stb ops vs Av cv Ao co W) (hown : w1.ownsRow (stb + 1) 3 1 (.slice (some ⟨g, 0, none⟩) (vs.length + 1) cap) (vs.length + 1) (vs.reverse.map (Value.int .i64) ++ [.int .i64 x])) (hg : (W.alloc tmp).grownBy w1 (Value.slice Av vs.length cv).ownBlock) :
    SK stb ops (x :: vs) (some ⟨g, 0, none⟩) cap Ao co (w1.setCell ⟨stb, 0, none⟩ (.slice (some ⟨g, 0, none⟩) (vs.length + 1) cap)) ∧ LoP stb [] W (w1.setCell ⟨stb, 0, none⟩ (.slice (some ⟨g, 0, none⟩) (vs.length + 1) cap)) ∧ w1.cell? ⟨stb, 0, none⟩ = some (.slice Av vs.length cv) ∧ w1.frozen? ⟨stb, 0, none⟩ = false := by
  obtain ⟨e1, e2, e3⟩ := h.grown h.hv hg
  rw [ownBlock_A] at hg
  have hst := e1.trans h.st
  have ho1 : w1.ownsRow (stb + 1) 9 1 (.slice Ao ops.length co) ops.length (ops.reverse.map strW) := own_keepG h.ho fun g' e => by
    rw [ownBlock_A] at e
    exact (hg.block g' (by have := h.rows.2 g' e; simp; omega) (fun e' => h.ne g' e'.symm e)).trans (Below.heap_alloc W _ _ (h.rows.2 g' e).2)
  have hv1 : w1.ownsRow (stb + 1) 3 1 (.slice (some ⟨g, 0, none⟩) (x :: vs).length cap) (x :: vs).length ((x :: vs).reverse.map (Value.int .i64)) := by
    rw [List.reverse_cons, List.map_append]; exact hown
  have hne := ne_types hv1 ho1 (by decide)
  refine ⟨⟨heap_setCell_same _ _ _ _ _ _ hst, own_setT hv1 (fun e => by have := hv1.lt _ e; omega) _, own_setT ho1 (fun e => by have := ho1.lt _ e; omega) _, hne, ?_⟩, e3.trans (LoP.setC hst (.inr (Nat.le_refl _)) (by have := h.lt; omega) _), (Lib.cell_of_heap hst 0).trans rfl, Lib.frozen_of_heap hst 0⟩
  intro v hv
  rcases List.mem_cons.1 hv with rfl | hv
  · exact hx
  · exact h.vb v hv
end

theorem digs_parse : ∀ (l : List UInt8) (acc : Nat), l.all digB = true → (acc + 1) * 10 ^ l.length ≤ 1000000000000000000 → ∃ u, Lib.parseUint10 acc l = .ok u ∧ u < 1000000000000000000
  | [], acc, _, hb => ⟨acc, by simp [Lib.parseUint10], by simp at hb; omega⟩
  | c :: r, acc, h, hb => by
    simp only [List.all_cons, Bool.and_eq_true, digB, decide_eq_true_eq] at h
    obtain ⟨⟨h1, h2⟩, h3⟩ := h
    have hp : (acc * 10 + (c.toNat - 48) + 1) * 10 ^ r.length ≤ (acc + 1) * 10 ^ (r.length + 1) := by
      rw [Nat.pow_succ, Nat.mul_comm (10 ^ r.length) 10, ← Nat.mul_assoc]
      exact Nat.mul_le_mul_right _ (by omega)
    have hb' : (acc + 1) * 10 ^ (r.length + 1) ≤ 1000000000000000000 := hb
    have hq : 1 ≤ 10 ^ r.length := Nat.one_le_pow _ _ (by omega)
    have ha : (acc + 1) * 10 ≤ 1000000000000000000 := by
      refine Nat.le_trans ?_ hb'
      rw [Nat.pow_succ, Nat.mul_comm (10 ^ r.length) 10, ← Nat.mul_assoc]
      exact Nat.le_mul_of_pos_right _ (by omega)
    obtain ⟨u, hu, hlt⟩ := digs_parse r (acc * 10 + (c.toNat - 48)) h3 (by omega)
    refine ⟨u, ?_, hlt⟩
    simp only [Lib.parseUint10]
    rw [if_pos (by omega), if_neg (by omega), if_neg (by omega)]
    exact hu
theorem digits_atoi {w : List UInt8} (h : digitsB w = true) : Lib.atoiAll w = .ok (atoiS w) ∧ inI (atoiS w) := by
  unfold digitsB at h
  simp only [Bool.and_eq_true, decide_eq_true_eq] at h
  obtain ⟨⟨⟨h1, h2⟩, _⟩, h4⟩ := h
  have hx : ∃ v, Lib.atoiAll w = .ok v := by
    cases w with
    | nil => cases h1
    | cons c r =>
      obtain ⟨u, hu, hlt⟩ := digs_parse (c :: r) 0 h4 (by
        have : 10 ^ (c :: r).length ≤ 10 ^ 12 := Nat.pow_le_pow_right (by omega) h2
        omega)
      simp only [List.all_cons, Bool.and_eq_true, digB, decide_eq_true_eq] at h4
      have hc : ¬ (c.toNat = 43 ∨ c.toNat = 45) := by omega
      have hc2 : ¬ c.toNat = 45 := by omega
      refine ⟨(u : Int), ?_⟩
      simp only [Lib.atoiAll, if_neg hc, Lib.parseMag, hu]
      simp [hc2]
      omega
  obtain ⟨v, hv⟩ := hx
  have e : atoiS w = v := by unfold atoiS; rw [hv]
  rw [e]
  exact ⟨hv, Lib.atoiAll_bounds hv⟩
section
variable {pb : Nat} {k : List Value} {A : Option Addr} {cw : Nat} {all : List (List UInt8)} {dry : Bool} {sb : Nat} {sy : SymS} {rest : List (List UInt8)} {W : World}
theorem useS_no {kd : Int} (h : namedB (peekS rest) = false) : useS dry sy kd rest = .error 3 := by
  cases rest with
  | nil => rfl
  | cons x r => simp only [useS]; rw [if_neg (by rw [show namedB x = false from h]; decide)]
theorem cfg_use (h : PS pb k A cw all dry sb sy rest W) (kd : Int) : Calls Tryz.prog 98 #[.pointer (some ⟨pb, 0, none⟩), .int .i64 kd] W (RetP pb k A cw all dry sb sy encI W (useS dry sy kd rest)) := by
  cases hn : namedB (peekS rest) with
  | false => rw [useS_no hn]; exact cfg_use_no h hn kd
  | true =>
    cases rest with
    | nil => cases hn
    | cons x r =>
      have := cfg_use_yes h (show namedB x = true from hn) kd
      simp only [useS]
      rw [if_pos (show namedB x = true from hn)]
      exact this
def leftOf (pb n : Nat) (w : World) : Nat := n - (match w.cell? ⟨pb, 23, none⟩ with | some (.int _ i) => i.toNat | _ => 0)
theorem PS.left (h : PS pb k A cw all dry sb sy rest W) : leftOf pb all.length W = rest.length := by
  unfold leftOf
  rw [h.cells.2.1]
  have := h.len
  simp
  omega
def RetF (stb pb : Nat) (k : List Value) (A : Option Addr) (cw : Nat) (all : List (List UInt8)) (dry : Bool) (sb : Nat) (sy : SymS) (W : World) (r : PR (List (List UInt8) × List Int)) (e : Ending) (W' : World) : Prop :=
  match r with
  | .ok ((os, vs), rest) => e = .returned (.tuple #[]) ∧ PS pb k A cw all dry sb sy rest W' ∧ LoP stb [pb] W W' ∧ ∃ Av cv Ao co, SK stb os vs Av cv Ao co W'
  | .error c => e = .panicked [{ v := .iface 38 (.int .i64 c), recovered := false }] ∧ LoP stb [pb] W W'
end

end Go.Proofs.YtpofbhaipeiegaaGreatDoor
