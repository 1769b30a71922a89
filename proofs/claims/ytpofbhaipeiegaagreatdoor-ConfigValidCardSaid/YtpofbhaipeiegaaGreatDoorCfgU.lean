/-
  config's parser: link (printed by gen_cfgu.py).
-/
import Derived.Test.YtpofbhaipeiegaaGreatDoorCfgT
namespace Go.Proofs.YtpofbhaipeiegaaGreatDoor
set_option linter.unusedSimpArgs false
set_option linter.unusedVariables false
open Go.RowKit Go.Shelf Go.Sort

def seenL (l : List (List UInt8)) : List (Value × Value) := l.map fun w => (.string ⟨w.toArray⟩, .bool true)
theorem zero_bool (w : World) : (zeroValue 4).run Tryz.prog w = .ok (.bool false) w := by kernel_rfl
theorem seen_look {mb : Nat} {seen : List (List UInt8)} {W : World} (h : MapAt Tryz.prog 9 mb (seenL seen) W) (w : List UInt8) (hw : w.length ≤ 10000) : (Instr.lookup 101 (.map (some mb)) (.string ⟨w.toArray⟩) false).run Tryz.prog W = .ok (.bool (decide (w ∈ seen))) W := by
  have hk := keyS (P := Tryz.prog) Tryz.underlying9 (l := w) (by omega)
  by_cases hm : w ∈ seen
  · rw [decide_eq_true hm]
    exact h.hit key_str Tryz.underlying101 hk false (List.mem_map.2 ⟨w, hm, rfl⟩)
  · rw [decide_eq_false hm]
    refine h.miss key_str Tryz.underlying101 (zero_bool W) hk false (fun y hy e => hm ?_)
    obtain ⟨u, hu, rfl⟩ := List.mem_map.1 hy
    have : u = w := by simpa using e
    rw [← this]; exact hu
theorem seen_store {mb : Nat} {seen : List (List UInt8)} {W : World} (h : MapAt Tryz.prog 9 mb (seenL seen) W) (w : List UInt8) (hw : w.length ≤ 10000) (hm : w ∉ seen) : ∃ W', (Instr.mapUpdate 101 (.map (some mb)) (.string ⟨w.toArray⟩) (.bool true)).run Tryz.prog W = .ok () W' ∧ MapAt Tryz.prog 9 mb (seenL (seen ++ [w])) W' ∧ W.grownBy W' (some mb) := by
  have hk := keyS (P := Tryz.prog) Tryz.underlying9 (l := w) (by omega)
  obtain ⟨W', h1, h2, h3⟩ := h.store key_str Tryz.underlying101 hk (.bool true) (fun y hy e => hm (by
    obtain ⟨u, hu, rfl⟩ := List.mem_map.1 hy
    have : u = w := by simpa using e
    rw [← this]; exact hu))
  refine ⟨W', h1, ?_, h3⟩
  have e : seenL (seen ++ [w]) = seenL seen ++ [(.string ⟨w.toArray⟩, .bool true)] := by simp [seenL]
  rw [e]; exact h2
def optsS (dry : Bool) (sy : SymS) : Nat → List (List UInt8) → Lnk → List (List UInt8) → PR Lnk
  | 0, _, _, _ => .error 0
  | _ + 1, _, l, [] => .ok (l, [])
  | f + 1, seen, l, w :: r =>
    if w ∈ seen then .error 3
    else if w = kCost then bindS (valueS dry sy 1 65535 r) fun v q => (match acceptS kBack q with | (true, q2) => bindS (valueS dry sy 1 65535 q2) fun u q3 => optsS dry sy f (seen ++ [w]) { l with c0 := v, c1 := u } q3 | (false, q2) => optsS dry sy f (seen ++ [w]) { l with c0 := v, c1 := v } q2)
    else if w = kCapacity then bindS (valueS dry sy 0 1048576 r) fun v q => optsS dry sy f (seen ++ [w]) { l with cap := v } q
    else if w = kDelay then bindS (valueS dry sy 1 65536 r) fun v q => optsS dry sy f (seen ++ [w]) { l with dl := v } q
    else if w = kGroup then bindS (valueS dry sy 0 64 r) fun v q => optsS dry sy f (seen ++ [w]) { l with g := v } q
    else .error 3
def linkK (dry : Bool) (c : Cf) (x : List UInt8) (l : Lnk) (ws : List (List UInt8)) : Except Int Cf := effS (finP dry (lookS c.sym x).isSome (decide (c.lnames.length = 256)) ws) c { c with sym := c.sym ++ [(x, (2, (c.lnames.length : Int)))], lnames := c.lnames ++ [x], links := c.links ++ [l] }
def linkS (dry : Bool) (c : Cf) (ws : List (List UInt8)) : Except Int Cf :=
  bindS (nameS ws) fun x r1 => bindS (endsS dry c.sym r1) fun ab r2 => bindS (optsS dry c.sym (r2.length + 1) [] ⟨ab.1, ab.2, 1, 1, 0, 1, 0⟩ r2) fun l r3 => linkK dry c x l r3
theorem LoN.map {pb mb : Nat} {W w1 w2 : World} (h : LoN pb W w1) (hg : w1.grownBy w2 (some mb)) (hm : W.heap.size ≤ mb) : LoN pb W w2 :=
  ⟨hg.os.trans h.os, hg.tape.trans h.tape, hg.output.trans h.output, Nat.le_trans h.size hg.size, fun k hk hn => (hg.block k (Nat.lt_of_lt_of_le hk h.size) (fun e => by injection e with e; omega)).trans (h.blk k hk hn),
    fun k o hk ho => by
      have hlt := (Array.getElem?_eq_some_iff.1 hk).1
      exact (hg.block k (Nat.lt_of_lt_of_le hlt h.size) (fun e => by injection e with e; omega)).trans (h.oth k o hk ho)⟩
section
variable {pb : Nat} {k : List Value} {A : Option Addr} {cw : Nat} {all : List (List UInt8)} {dry : Bool} {sb : Nat} {sy : SymS} {rest : List (List UInt8)} {W : World}
theorem PS.mapO {mb : Nat} {r : List (List UInt8)} {Wa w2 : World} (h : PS pb k A cw all dry sb sy r Wa) (hp : PS pb k A cw all dry sb sy rest W) (hg : Wa.grownBy w2 (some mb)) (hn : W.heap.size ≤ mb) : PS pb k A cw all dry sb sy r w2 := by
  have h1 := hp.lt
  have h2 := hp.sm.lt
  have e : ∀ b, b < W.heap.size → b < Wa.heap.size → w2.heap[b]? = Wa.heap[b]? := fun b hb hb2 => hg.block b hb2 (fun e => by injection e with e; omega)
  exact ⟨(e pb h1 h.lt).trans h.blk, h.kl, h.suf, rd_blocks h.rd (fun b o s e' => e b (hp.aw b o s e').2 (h.aw b o s e').2), fun b o s e' => ⟨(h.aw b o s e').1, Nat.lt_of_lt_of_le (h.aw b o s e').2 hg.size⟩, h.al, h.sk, h.sm.kept (e sb h2 h.sm.lt), h.sn⟩
end
theorem lk_cells {w : World} {g : Nat} {l : Lnk} {T : TypeId} (h : w.heap[g]? = some (.cells (lkV l).toArray T (0, 0))) : w.cell? ⟨g, 0, none⟩ = some (.int .i64 l.a) ∧ w.cell? ⟨g, 1, none⟩ = some (.int .i64 l.b) ∧ w.cell? ⟨g, 2, none⟩ = some (.int .i64 l.c0) ∧ w.cell? ⟨g, 3, none⟩ = some (.int .i64 l.c1) ∧ w.cell? ⟨g, 4, none⟩ = some (.int .i64 l.cap) ∧ w.cell? ⟨g, 5, none⟩ = some (.int .i64 l.dl) ∧ w.cell? ⟨g, 6, none⟩ = some (.int .i64 l.g) ∧ ∀ i, w.frozen? ⟨g, i, none⟩ = false :=
  ⟨(Lib.cell_of_heap h 0).trans rfl, (Lib.cell_of_heap h 1).trans rfl, (Lib.cell_of_heap h 2).trans rfl, (Lib.cell_of_heap h 3).trans rfl, (Lib.cell_of_heap h 4).trans rfl, (Lib.cell_of_heap h 5).trans rfl, (Lib.cell_of_heap h 6).trans rfl, fun i => Lib.frozen_of_heap h i⟩
theorem lnkInfo' : (Tryz.prog.info? 64).map (fun i => (i.zero, i.size, i.bytes)) = some (some (.agg #[.int .i64 0, .int .i64 0, .int .i64 0, .int .i64 0, .int .i64 0, .int .i64 0, .int .i64 0]), 7, 56) := by kernel_rfl
/-- Where the options are read: the link's block and the map of the options that were seen. -/
structure OP (lb mb : Nat) (l : Lnk) (seen : List (List UInt8)) (n0 : Nat) (W : World) : Prop where
  b : W.heap[lb]? = some (.cells (lkV l).toArray 64 (0, 0))
  m : MapAt Tryz.prog 9 mb (seenL seen) W
  h : n0 ≤ lb ∧ n0 ≤ mb
theorem OP.lo {lb mb n0 pb : Nat} {l : Lnk} {seen : List (List UInt8)} {W W' : World} (h : OP lb mb l seen n0 W) (hl : LoN pb W W') (hp : pb < n0) : OP lb mb l seen n0 W' :=
  ⟨(hl.blk lb (lt_of_heap h.b) (by simp; have := h.h; omega)).trans h.b, h.m.kept (hl.blk mb h.m.lt (by simp; have := h.h; omega)), h.h⟩
theorem OP.ne {lb mb n0 : Nat} {l : Lnk} {seen : List (List UInt8)} {W : World} (h : OP lb mb l seen n0 W) : lb ≠ mb := fun e => by
  obtain ⟨es, cl, h1, _⟩ := h.m
  rw [← e, h.b] at h1; cases h1
theorem OP.set {lb mb n0 : Nat} {l l' : Lnk} {seen : List (List UInt8)} {W : World} (h : OP lb mb l seen n0 W) (j : Nat) (v : Value) (e : (lkV l).toArray.setIfInBounds j v = (lkV l').toArray) : OP lb mb l' seen n0 (W.setCell ⟨lb, j, none⟩ v) :=
  ⟨by rw [heap_setCell_same _ _ j _ _ v h.b, e], h.m.kept (Below.heap_setCell _ _ _ _ (by simpa using h.ne.symm)), h.h⟩
theorem factor_len {dry : Bool} {sy : SymS} : ∀ {ws ops : List (List UInt8)} {vs : List Int} {os : List (List UInt8)} {us : List Int} {r : List (List UInt8)}, factorS dry sy ws ops vs = .ok ((os, us), r) → r.length < ws.length
  | [], _, _, _, _, _, e => by cases e
  | w :: t, ops, vs, os, us, r, e => by
    simp only [factorS] at e
    split at e
    · have := factor_len e; simp; omega
    · split at e
      · have := factor_len e; simp; omega
      · split at e
        · injection e with e
          injection e with _ e
          subst e
          simp
        · cases hu : useS dry sy 3 (w :: t) with
          | error c => rw [hu] at e; cases e
          | ok p =>
            obtain ⟨v, r'⟩ := p
            rw [hu] at e
            injection e with e
            injection e with _ e
            subst e
            simp only [useS] at hu
            split at hu
            · cases hv : useOf dry 3 (lookS sy w) with
              | error c => rw [hv] at hu; cases hu
              | ok v' =>
                rw [hv] at hu
                injection hu with hu
                injection hu with _ hu
                subst hu
                simp
            · cases hu
theorem close_len {dry : Bool} : ∀ {ws ops : List (List UInt8)} {vs : List Int} {x : List (List UInt8) × List Int} {r : List (List UInt8)}, closeS dry ws ops vs = .ok (x, r) → r.length ≤ ws.length
  | [], _, _, _, _, e => by
    simp only [closeS] at e
    injection e with e
    injection e with _ e
    subst e
    simp
  | w :: t, ops, vs, x, r, e => by
    simp only [closeS] at e
    split at e
    · cases hc : combineS dry 1 ops vs with
      | error c => rw [hc] at e; cases e
      | ok p =>
        obtain ⟨o2, v2⟩ := p
        rw [hc] at e
        have := close_len e
        simp; omega
    · injection e with e
      injection e with _ e
      subst e
      exact Nat.le_refl _
theorem expr_len {dry : Bool} {sy : SymS} : ∀ {f : Nat} {ws ops : List (List UInt8)} {vs : List Int} {v : Int} {r : List (List UInt8)}, exprF dry sy f ws ops vs = .ok (v, r) → r.length < ws.length
  | 0, _, _, _, _, _, e => by cases e
  | f + 1, ws, ops, vs, v, r, e => by
    cases h1 : factorS dry sy ws ops vs with
    | error c => rw [exprF_e1 h1] at e; cases e
    | ok p1 =>
      obtain ⟨⟨o1, v1⟩, r1⟩ := p1
      have l1 := factor_len h1
      cases h2 : closeS dry r1 o1 v1 with
      | error c => rw [exprF_e2 h1 h2] at e; cases e
      | ok p2 =>
        obtain ⟨⟨o2, v2⟩, r2⟩ := p2
        have l2 := close_len h2
        by_cases h3 : rankS (peekS r2) = 0
        · rw [exprF_end h1 h2 h3] at e
          cases h4 : endS dry o2 v2 with
          | error c => rw [h4] at e; cases e
          | ok z =>
            rw [h4] at e
            injection e with e
            injection e with _ e
            subst e
            omega
        · cases h4 : combineS dry (rankS (peekS r2)) o2 v2 with
          | error c => rw [exprF_e3 h1 h2 h3 h4] at e; cases e
          | ok p3 =>
            obtain ⟨o3, v3⟩ := p3
            rw [exprF_go h1 h2 h3 h4] at e
            have := expr_len e
            simp at this
            omega
theorem valueS_len {dry : Bool} {sy : SymS} {lo hi v : Int} {ws r : List (List UInt8)} (e : valueS dry sy lo hi ws = .ok (v, r)) : r.length < ws.length := by
  unfold valueS at e
  cases h : exprS dry sy ws with
  | error c => rw [h] at e; cases e
  | ok p =>
    obtain ⟨v', r'⟩ := p
    rw [h] at e
    simp only at e
    split at e
    · cases e
    · injection e with e
      injection e with _ e
      subst e
      exact expr_len h
theorem accept_len {w : List UInt8} {ws q : List (List UInt8)} {o : Bool} (e : acceptS w ws = (o, q)) : q.length ≤ ws.length := by
  cases ws with
  | nil => injection e with _ e; subst e; exact Nat.le_refl _
  | cons x r =>
    simp only [acceptS] at e
    split at e <;> (injection e with _ e; subst e; simp)
section
variable {B pb sb xb yb : Nat} {r : Rws} {c : Cf} {wv : Value} {i : Nat} {dry : Bool} {W w1 : World}
theorem St.drew (h : St B pb sb xb yb r c wv i dry W) : St B pb sb xb yb r c wv i dry W.drew := ⟨h.blk, h.rows.keep (fun _ _ _ => rfl), h.sm.kept rfl, h.xm.kept rfl, h.ym.kept rfl, h.lim, h.ll, h.bl, h.sz⟩
theorem LoM.drew {X : List Nat} {W W' : World} (h : LoM B X W W') : LoM B X W W'.drew := ⟨h.os, h.tape, h.output, h.size, h.blk, h.oth⟩
theorem St.pushK {l : Lnk} {g cap : Nat} {tmp : Obj} (h : St B pb sb xb yb r c wv i dry W) (hown : w1.ownsRow B 64 7 (.slice (some ⟨g, 0, none⟩) (c.links.length + 1) cap) (c.links.length + 1) (c.links.flatMap lkV ++ lkV l))
    (hg : (W.alloc tmp).grownBy w1 (Value.slice r.aK c.links.length r.cK).ownBlock) (hat : (Value.slice r.aK c.links.length r.cK).ownBlock = some g ∨ g = (W.alloc tmp).heap.size) (hlim : c.links.length < c.lnames.length) :
    St B pb sb xb yb { r with aK := some ⟨g, 0, none⟩, cK := cap } { c with links := c.links ++ [l] } wv i dry (w1.setCell ⟨pb, 4, none⟩ (.slice (some ⟨g, 0, none⟩) (c.links.length + 1) cap)) ∧ LoM B [pb, sb, xb, yb] W (w1.setCell ⟨pb, 4, none⟩ (.slice (some ⟨g, 0, none⟩) (c.links.length + 1) cap)) ∧ w1.cell? ⟨pb, 4, none⟩ = some (.slice r.aK c.links.length r.cK) ∧ w1.frozen? ⟨pb, 4, none⟩ = false := by
  have hr := Rows.push (L1 := [_, _]) (R := ⟨64, 7, r.aK, r.cK, c.links.length, c.links.flatMap lkV⟩) h.rows hown hg hat
  refine h.pushG (h.loA h.ownK hg) (r' := { r with aK := some ⟨g, 0, none⟩, cK := cap }) (c' := { c with links := c.links ++ [l] }) ?_ (by decide) (by simp [kOf]) rfl rfl rfl ⟨h.lim.names, h.lim.lnames, by simp; omega, h.lim.pfx, h.lim.pols, h.lim.dems, h.lim.ov, h.lim.tm, h.lim.giv, h.lim.sy⟩ h.ll
  simpa [rowsOf] using hr
end

end Go.Proofs.YtpofbhaipeiegaaGreatDoor
