/-
  Maps whose keys are prefixes, pairs of numbers.
  config's parser: policy, the list that is built.
-/
import Derived.Test.YtpofbhaipeiegaaGreatDoorCfgW
import Derived.DeepKeys4
namespace Go.Proofs.YtpofbhaipeiegaaGreatDoor
set_option linter.unusedSimpArgs false
set_option linter.unusedVariables false
open Go.RowKit Go.Shelf Go.Sort
open Go.Maps (Keyed)

theorem laid_out : laidOutB Tryz.prog = true := by kernel_rfl
theorem key_pfx : Keyed Tryz.prog 90 := Keyed.of_law (deep_law_laid laid_out (m := 2) (by omega) (of_decide_eq_true (by kernel_rfl)) (by kernel_rfl) (by kernel_rfl))
theorem key_two : Keyed Tryz.prog 62 := Keyed.of_law (deep_law_laid laid_out (m := 2) (by omega) (of_decide_eq_true (by kernel_rfl)) (by kernel_rfl) (by kernel_rfl))
theorem lits_succ {P : Program} {d : Nat} {t : TypeId} {cs : List Value} {n : Nat} (h : n = d + 1) : P.keyLits n t cs = P.keyLits (d + 1) t cs := by rw [h]
theorem lits_int {P : Program} {d : Nat} {t : TypeId} {q : IntKind} {a : Int} (ht : P.underlying t = some (.int q)) (hw : (Lit.int q a).wf = true) : P.keyLits (d + 1) t [.int q a] = some [.int q a] := by
  simp [Program.keyLits, ht, hw]
theorem wf_i64 {a : Int} (h : inI a) : (Lit.int .i64 a).wf = true := by
  have e1 : IntKind.i64.min = -9223372036854775808 := by decide
  have e2 : IntKind.i64.max = 9223372036854775807 := by decide
  unfold inI at h
  simp [Lit.wf, e1, e2]
  omega
theorem keyTwo (a b : Int) (ha : inI a) (hb : inI b) : ∃ l, keyOf Tryz.prog 62 (.agg #[.int .i64 a, .int .i64 b]) = some l := by
  have wa := wf_i64 ha
  have wb := wf_i64 hb
  have hu := Tryz.underlying62
  have hc : Tryz.prog.cellsOf 62 = 2 := by kernel_rfl
  have hi : Tryz.prog.cellsOf 3 = 1 := by kernel_rfl
  have hk : Tryz.prog.keyType 62 = true := by kernel_rfl
  obtain ⟨n, hn⟩ : ∃ n, Tryz.prog.types.size = n + 1 := ⟨Tryz.prog.types.size - 1, by have : 0 < Tryz.prog.types.size := of_decide_eq_true (by kernel_rfl); omega⟩
  refine ⟨.string (keyBytes [.int .i64 a, .int .i64 b]), ?_⟩
  have hf : (Value.agg #[.int .i64 a, .int .i64 b]).formed Tryz.prog 62 = true := by simp [Value.formed, hu, hc]
  have hl : Tryz.prog.keyLits (Tryz.prog.types.size + 1) 62 [.int .i64 a, .int .i64 b] = some [.int .i64 a, .int .i64 b] := by
    rw [hn, Program.keyLits.eq_def]
    simp only [hu, hc, hi, List.length_cons, List.length_nil, Nat.zero_add, if_true]
    have e1 := lits_int (d := n) (a := a) Tryz.underlying3 wa
    have e2 := lits_int (d := n) (a := b) Tryz.underlying3 wb
    simp [List.range, List.range.loop, e1, e2]
  unfold keyOf
  rw [hu]
  simp only [hk, hf, Bool.and_self, if_true]
  show (Tryz.prog.keyLits (Tryz.prog.types.size + 1) 62 [.int .i64 a, .int .i64 b]).map _ = _
  rw [hl]
  rfl
theorem wf_u32 {a : Int} (h : 0 ≤ a ∧ a < 4294967296) : (Lit.int .u32 a).wf = true := by
  have e1 : IntKind.u32.min = 0 := by decide
  have e2 : IntKind.u32.max = 4294967295 := by decide
  simp [Lit.wf, e1, e2]
  omega
theorem keyPfx (a b : Int) (ha : 0 ≤ a ∧ a < 4294967296) (hb : inI b) : ∃ l, keyOf Tryz.prog 90 (.agg #[.int .u32 a, .int .i64 b]) = some l := by
  have wa := wf_u32 ha
  have wb := wf_i64 hb
  have hu := Tryz.underlying90
  have hc : Tryz.prog.cellsOf 90 = 2 := by kernel_rfl
  have hi : Tryz.prog.cellsOf 3 = 1 := by kernel_rfl
  have hi2 : Tryz.prog.cellsOf 88 = 1 := by kernel_rfl
  have hk : Tryz.prog.keyType 90 = true := by kernel_rfl
  obtain ⟨n, hn⟩ : ∃ n, Tryz.prog.types.size = n + 1 := ⟨Tryz.prog.types.size - 1, by have : 0 < Tryz.prog.types.size := of_decide_eq_true (by kernel_rfl); omega⟩
  refine ⟨.string (keyBytes [.int .u32 a, .int .i64 b]), ?_⟩
  have hf : (Value.agg #[.int .u32 a, .int .i64 b]).formed Tryz.prog 90 = true := by simp [Value.formed, hu, hc]
  have hl : Tryz.prog.keyLits (Tryz.prog.types.size + 1) 90 [.int .u32 a, .int .i64 b] = some [.int .u32 a, .int .i64 b] := by
    rw [hn, Program.keyLits.eq_def]
    simp only [hu, hc, List.length_cons, List.length_nil, Nat.zero_add]
    have e1 := lits_int (d := n) (a := a) Tryz.underlying88 wa
    have e2 := lits_int (d := n) (a := b) Tryz.underlying3 wb
    simp [e1, e2, hi, hi2]
  unfold keyOf
  rw [hu]
  simp only [hk, hf, Bool.and_self, if_true]
  show (Tryz.prog.keyLits (Tryz.prog.types.size + 1) 90 [.int .u32 a, .int .i64 b]).map _ = _
  rw [hl]
  rfl
theorem pfx_look {b : Nat} {l : List (Int × Int)} {W : World} (h : MapAt Tryz.prog 90 b (pfxL l) W) (x y : Int) (hx : 0 ≤ x ∧ x < 4294967296) (hy : inI y) : (Instr.lookup 70 (.map (some b)) (.agg #[.int .u32 x, .int .i64 y]) false).run Tryz.prog W = .ok (.bool (decide ((x, y) ∈ l))) W := by
  obtain ⟨kl, hk⟩ := keyPfx x y hx hy
  by_cases hm : (x, y) ∈ l
  · rw [decide_eq_true hm]
    exact h.hit key_pfx Tryz.underlying70 hk false (List.mem_map.2 ⟨(x, y), hm, rfl⟩)
  · rw [decide_eq_false hm]
    refine h.miss key_pfx Tryz.underlying70 (zero_bool W) hk false (fun z hz e => hm ?_)
    obtain ⟨⟨u, v⟩, hu, rfl⟩ := List.mem_map.1 hz
    have : u = x ∧ v = y := by simpa using e
    rw [← this.1, ← this.2]; exact hu
theorem pfx_store {b : Nat} {l : List (Int × Int)} {W : World} (h : MapAt Tryz.prog 90 b (pfxL l) W) (x y : Int) (hx : 0 ≤ x ∧ x < 4294967296) (hy : inI y) (hm : (x, y) ∉ l) : ∃ W', (Instr.mapUpdate 70 (.map (some b)) (.agg #[.int .u32 x, .int .i64 y]) (.bool true)).run Tryz.prog W = .ok () W' ∧ MapAt Tryz.prog 90 b (pfxL (l ++ [(x, y)])) W' ∧ W.grownBy W' (some b) := by
  obtain ⟨kl, hk⟩ := keyPfx x y hx hy
  obtain ⟨W', h1, h2, h3⟩ := h.store key_pfx Tryz.underlying70 hk (.bool true) (fun z hz e => hm (by
    obtain ⟨⟨u, v⟩, hu, rfl⟩ := List.mem_map.1 hz
    have : u = x ∧ v = y := by simpa using e
    rw [← this.1, ← this.2]; exact hu))
  refine ⟨W', h1, ?_, h3⟩
  have e : pfxL (l ++ [(x, y)]) = pfxL l ++ [(.agg #[.int .u32 x, .int .i64 y], .bool true)] := by simp [pfxL]
  rw [e]; exact h2
theorem two_look {b : Nat} {l : List (Int × Int)} {W : World} (h : MapAt Tryz.prog 62 b (polL l) W) (x y : Int) (hx : inI x) (hy : inI y) : (Instr.lookup 71 (.map (some b)) (.agg #[.int .i64 x, .int .i64 y]) false).run Tryz.prog W = .ok (.bool (decide ((x, y) ∈ l))) W := by
  obtain ⟨kl, hk⟩ := keyTwo x y hx hy
  by_cases hm : (x, y) ∈ l
  · rw [decide_eq_true hm]
    exact h.hit key_two Tryz.underlying71 hk false (List.mem_map.2 ⟨(x, y), hm, rfl⟩)
  · rw [decide_eq_false hm]
    refine h.miss key_two Tryz.underlying71 (zero_bool W) hk false (fun z hz e => hm ?_)
    obtain ⟨⟨u, v⟩, hu, rfl⟩ := List.mem_map.1 hz
    have : u = x ∧ v = y := by simpa using e
    rw [← this.1, ← this.2]; exact hu
theorem two_store {b : Nat} {l : List (Int × Int)} {W : World} (h : MapAt Tryz.prog 62 b (polL l) W) (x y : Int) (hx : inI x) (hy : inI y) (hm : (x, y) ∉ l) : ∃ W', (Instr.mapUpdate 71 (.map (some b)) (.agg #[.int .i64 x, .int .i64 y]) (.bool true)).run Tryz.prog W = .ok () W' ∧ MapAt Tryz.prog 62 b (polL (l ++ [(x, y)])) W' ∧ W.grownBy W' (some b) := by
  obtain ⟨kl, hk⟩ := keyTwo x y hx hy
  obtain ⟨W', h1, h2, h3⟩ := h.store key_two Tryz.underlying71 hk (.bool true) (fun z hz e => hm (by
    obtain ⟨⟨u, v⟩, hu, rfl⟩ := List.mem_map.1 hz
    have : u = x ∧ v = y := by simpa using e
    rw [← this.1, ← this.2]; exact hu))
  refine ⟨W', h1, ?_, h3⟩
  have e : polL (l ++ [(x, y)]) = polL l ++ [(.agg #[.int .i64 x, .int .i64 y], .bool true)] := by simp [polL]
  rw [e]; exact h2
section
variable {B pb sb xb yb : Nat} {r : Rws} {c : Cf} {wv : Value} {i : Nat} {dry : Bool} {W w1 W' : World}
/-- A prefix is stored. -/
theorem St.keyX (x y : Int) (h : St B pb sb xb yb r c wv i dry W) (hx : 0 ≤ x ∧ x < 4294967296) (hy : inI y) (hm : (x, y) ∉ c.xk) :
    ∃ W', (Instr.mapUpdate 70 (.map (some xb)) (.agg #[.int .u32 x, .int .i64 y]) (.bool true)).run Tryz.prog W = .ok () W' ∧ St B pb sb xb yb r { c with xk := c.xk ++ [(x, y)] } wv i dry W' ∧ LoM B [pb, sb, xb, yb] W W' ∧ W.grownBy W' (some xb) := by
  obtain ⟨W', h1, h2, h3⟩ := pfx_store h.xm x y hx hy hm
  have hlt := h.bl.1
  have hs := h.sz
  have e : ∀ b, b ≠ xb → b < W.heap.size → W'.heap[b]? = W.heap[b]? := fun b hb hs => h3.block b hs (by simpa using hb)
  have hps : pb ≠ xb := fun e => by
    obtain ⟨es, cl, h1, _⟩ := h.xm
    rw [← e, h.blk] at h1; cases h1
  exact ⟨W', h1, ⟨(e pb hps (by omega)).trans h.blk, h.rows.keep fun g q1 q2 => e g (by omega) q2, h.sm.kept (e sb h.bl.2.1 h.sm.lt), h2, h.ym.kept (e yb h.bl.2.2.2.symm h.ym.lt), ⟨h.lim.names, h.lim.lnames, h.lim.links, h.lim.pfx, h.lim.pols, h.lim.dems, h.lim.ov, h.lim.tm, h.lim.giv, h.lim.sy⟩, h.ll, h.bl, Nat.le_trans h.sz h3.size⟩, LoM.ofMap h3 hs (by simp), h3⟩
theorem St.keyY (x y : Int) (h : St B pb sb xb yb r c wv i dry W) (hx : inI x) (hy : inI y) (hm : (x, y) ∉ c.yk) :
    ∃ W', (Instr.mapUpdate 71 (.map (some yb)) (.agg #[.int .i64 x, .int .i64 y]) (.bool true)).run Tryz.prog W = .ok () W' ∧ St B pb sb xb yb r { c with yk := c.yk ++ [(x, y)] } wv i dry W' ∧ LoM B [pb, sb, xb, yb] W W' ∧ W.grownBy W' (some yb) := by
  obtain ⟨W', h1, h2, h3⟩ := two_store h.ym x y hx hy hm
  have hlt := h.bl.1
  have hs := h.sz
  have e : ∀ b, b ≠ yb → b < W.heap.size → W'.heap[b]? = W.heap[b]? := fun b hb hs => h3.block b hs (by simpa using hb)
  have hps : pb ≠ yb := fun e => by
    obtain ⟨es, cl, h1, _⟩ := h.ym
    rw [← e, h.blk] at h1; cases h1
  exact ⟨W', h1, ⟨(e pb hps (by omega)).trans h.blk, h.rows.keep fun g q1 q2 => e g (by omega) q2, h.sm.kept (e sb h.bl.2.2.1 h.sm.lt), h.xm.kept (e xb h.bl.2.2.2 h.xm.lt), h2, ⟨h.lim.names, h.lim.lnames, h.lim.links, h.lim.pfx, h.lim.pols, h.lim.dems, h.lim.ov, h.lim.tm, h.lim.giv, h.lim.sy⟩, h.ll, h.bl, Nat.le_trans h.sz h3.size⟩, LoM.ofMap h3 hs (by simp), h3⟩
end

end Go.Proofs.YtpofbhaipeiegaaGreatDoor
namespace Go.Proofs.YtpofbhaipeiegaaGreatDoor
set_option linter.unusedSimpArgs false
set_option linter.unusedVariables false
open Go.RowKit Go.Shelf Go.Sort

def segsS (dry : Bool) (sy : SymS) : Nat → List (Int × Int) → List (List UInt8) → PR (List (Int × Int))
  | 0, _, _ => .error 0
  | _ + 1, l, [] => .ok (l, [])
  | f + 1, l, w :: r => bindS (segS dry sy (w :: r)) fun g q => segsS dry sy f (l ++ [g]) q
def policyS (dry : Bool) (c : Cf) (ws : List (List UInt8)) : Except Int Cf :=
  bindS (useS dry c.sym 1 ws) fun a r1 => bindS (valueS dry c.sym 0 65535 r1) fun b r2 => bindS (expectS kEq r2) fun _ r3 => bindS (segsS dry c.sym (r3.length + 1) [] r3) fun l r4 =>
    effS (finP dry (decide ((a, b) ∈ c.yk)) (decide (c.pols.length = 64) || decide (32 < l.length)) r4) c { c with yk := c.yk ++ [(a, b)], pols := c.pols ++ [(a, b, l)] }
theorem useS_len {dry : Bool} {sy : SymS} {kd v : Int} {ws r : List (List UInt8)} (e : useS dry sy kd ws = .ok (v, r)) : r.length < ws.length := by
  cases ws with
  | nil => cases e
  | cons w t =>
    simp only [useS] at e
    split at e
    · cases hv : useOf dry kd (lookS sy w) with
      | error c => rw [hv] at e; cases e
      | ok v' =>
        rw [hv] at e
        injection e with e
        injection e with _ e
        subst e
        simp
    · cases e
theorem seg_len {dry : Bool} {sy : SymS} {g : Int × Int} {ws r : List (List UInt8)} (e : segS dry sy ws = .ok (g, r)) : r.length < ws.length := by
  unfold segS at e
  cases h1 : acceptS kAny ws with
  | mk o1 q1 =>
    have l1 := accept_len h1
    rw [h1] at e
    cases o1 with
    | true =>
      simp only [bindS] at e
      cases h2 : valueS dry sy 1 64 q1 with
      | error c => rw [h2] at e; cases e
      | ok p =>
        obtain ⟨n, r'⟩ := p
        rw [h2] at e
        injection e with e
        injection e with _ e
        subst e
        have := valueS_len h2
        omega
    | false =>
      simp only at e
      cases h3 : acceptS kBind q1 with
      | mk o2 q2 =>
        have l2 := accept_len h3
        rw [h3] at e
        cases o2 with
        | true =>
          simp only [bindS] at e
          cases h2 : valueS dry sy 0 65535 q2 with
          | error c => rw [h2] at e; cases e
          | ok p =>
            obtain ⟨n, r'⟩ := p
            rw [h2] at e
            injection e with e
            injection e with _ e
            subst e
            have := valueS_len h2
            omega
        | false =>
          simp only [bindS] at e
          split at e
          · cases h4 : useS dry sy 2 q2 with
            | error c => rw [h4] at e; cases e
            | ok p =>
              obtain ⟨n, r1⟩ := p
              have l4 := useS_len h4
              rw [h4] at e
              simp only at e
              cases r1 with
              | nil => simp only [nextS] at e; cases e
              | cons w t =>
                simp only [nextS] at e
                injection e with e
                injection e with _ e
                subst e
                simp at l4
                omega
          · cases h4 : useS dry sy 1 q2 with
            | error c => rw [h4] at e; cases e
            | ok p =>
              obtain ⟨n, r1⟩ := p
              have l4 := useS_len h4
              rw [h4] at e
              injection e with e
              injection e with _ e
              subst e
              omega
theorem segInfo' : (Tryz.prog.info? 97).map (fun i => (i.zero, i.size, i.bytes)) = some (some (.agg #[.int .i64 0, .int .i64 0]), 2, 16) := by kernel_rfl
theorem polInfo' : (Tryz.prog.info? 95).map (fun i => (i.zero, i.size, i.bytes)) = some (some (.agg #[.int .i64 0, .int .i64 0, .slice none 0 0]), 3, 40) := by kernel_rfl
/-- The policy that is being read. -/
structure PP (lb n0 : Nat) (a b : Int) (l : List (Int × Int)) (Al : Option Addr) (cl : Nat) (W : World) : Prop where
  b : W.heap[lb]? = some (.cells #[.int .i64 a, .int .i64 b, .slice Al l.length cl] 95 (0, 0))
  o : W.ownsRow (lb + 1) 97 2 (.slice Al l.length cl) l.length (l.flatMap sgV)
  h : n0 ≤ lb
section
variable {lb n0 pb : Nat} {a b : Int} {l : List (Int × Int)} {Al : Option Addr} {cl g cap : Nat} {x : Int × Int} {W W' w1 : World} {tmp : Obj}
theorem PP.lt (h : PP lb n0 a b l Al cl W) : lb < W.heap.size := lt_of_heap h.b
theorem PP.lo (h : PP lb n0 a b l Al cl W) (hl : LoN pb W W') (hp : pb < n0) : PP lb n0 a b l Al cl W' :=
  ⟨(hl.blk lb h.lt (by simp; have := h.h; omega)).trans h.b, own_keepG h.o fun g e => hl.blk g (h.o.lt g e).2 (by simp; have := h.h; have := (h.o.lt g e).1; omega), h.h⟩
theorem PP.push (h : PP lb n0 a b l Al cl W) (hown : w1.ownsRow (lb + 1) 97 2 (.slice (some ⟨g, 0, none⟩) (l.length + 1) cap) (l.length + 1) (l.flatMap sgV ++ sgV x)) (hg : (W.alloc tmp).grownBy w1 (Value.slice Al l.length cl).ownBlock) :
    PP lb n0 a b (l ++ [x]) (some ⟨g, 0, none⟩) cap (w1.setCell ⟨lb, 2, none⟩ (.slice (some ⟨g, 0, none⟩) (l.length + 1) cap)) ∧ LoP n0 [] W (w1.setCell ⟨lb, 2, none⟩ (.slice (some ⟨g, 0, none⟩) (l.length + 1) cap)) ∧ w1.cell? ⟨lb, 2, none⟩ = some (.slice Al l.length cl) ∧ w1.frozen? ⟨lb, 2, none⟩ = false := by
  have hlt := h.lt
  have hh := h.h
  have hb1 : w1.heap[lb]? = W.heap[lb]? := (hg.block lb (by simp; omega) (fun e => by have := h.o.lt _ e.symm; omega)).trans (Below.heap_alloc W _ _ hlt)
  have hblk := hb1.trans h.b
  have hl : LoP n0 [] W w1 := (LoP.append h.o hg (by omega)).weak (by omega)
  refine ⟨⟨?_, ?_, h.h⟩, hl.trans (LoP.setC hblk (.inr hh) (by have := hl.size; omega) _), (Lib.cell_of_heap hblk 2).trans rfl, Lib.frozen_of_heap hblk 2⟩
  · rw [heap_setCell_same _ _ 2 _ _ _ hblk]
    simp
  · have := own_setT (j := 2) hown (g := lb) (fun e => by have := hown.lt _ e; omega) (.slice (some ⟨g, 0, none⟩) (l.length + 1) cap)
    simpa using this
end
section
variable {B pb sb xb yb : Nat} {r : Rws} {c : Cf} {wv : Value} {i : Nat} {dry : Bool} {W w1 W' : World}
/-- A new list of segments joins the rows. -/
theorem Rows.join {L : List Row} {R : Row} (h : Rows B L W) (ho : W.ownsRow B R.e R.s (.slice R.A R.n R.c) R.n R.xs) (hf : ∀ g, fldA R.A = some g → ∀ S ∈ L, fldA S.A ≠ some g) : Rows B (L ++ [R]) W :=
  ⟨fun S hS => by
    rcases List.mem_append.1 hS with hS | hS
    · exact h.own S hS
    · simp at hS; subst hS; exact ho, List.pairwise_append.2 ⟨h.apart, by simp, fun S hS T hT => by
    simp at hT; subst hT
    intro g e e'
    exact hf g e' S hS e⟩⟩
theorem St.pushQ {a b : Int} {l : List (Int × Int)} {Al : Option Addr} {cl g cap : Nat} {tmp : Obj} (h : St B pb sb xb yb r c wv i dry W) (hown : w1.ownsRow B 95 3 (.slice (some ⟨g, 0, none⟩) (c.pols.length + 1) cap) (c.pols.length + 1) ((c.pols.zip r.ls).flatMap plV ++ plV ((a, b, l), (Al, cl))))
    (hg : (W.alloc tmp).grownBy w1 (Value.slice r.aQ c.pols.length r.cQ).ownBlock) (hat : (Value.slice r.aQ c.pols.length r.cQ).ownBlock = some g ∨ g = (W.alloc tmp).heap.size) (hlim : c.pols.length < 64)
    (ho : W.ownsRow B 97 2 (.slice Al l.length cl) l.length (l.flatMap sgV)) (hf : ∀ g, fldA Al = some g → ∀ S ∈ rowsOf r c, fldA S.A ≠ some g) :
    St B pb sb xb yb { r with aQ := some ⟨g, 0, none⟩, cQ := cap, ls := r.ls ++ [(Al, cl)] } { c with pols := c.pols ++ [(a, b, l)] } wv i dry (w1.setCell ⟨pb, 6, none⟩ (.slice (some ⟨g, 0, none⟩) (c.pols.length + 1) cap)) ∧ LoM B [pb, sb, xb, yb] W (w1.setCell ⟨pb, 6, none⟩ (.slice (some ⟨g, 0, none⟩) (c.pols.length + 1) cap)) ∧ w1.cell? ⟨pb, 6, none⟩ = some (.slice r.aQ c.pols.length r.cQ) ∧ w1.frozen? ⟨pb, 6, none⟩ = false := by
  have hj := Rows.join (R := ⟨97, 2, Al, cl, l.length, l.flatMap sgV⟩) h.rows ho hf
  have hr := Rows.push (L1 := [_, _, _, _]) (R := ⟨95, 3, r.aQ, r.cQ, c.pols.length, (c.pols.zip r.ls).flatMap plV⟩) hj hown hg hat
  have hz : (c.pols ++ [(a, b, l)]).zip (r.ls ++ [(Al, cl)]) = c.pols.zip r.ls ++ [((a, b, l), (Al, cl))] := by
    rw [List.zip_append h.ll.symm]; rfl
  refine h.pushG (h.loA h.ownQ hg) (r' := { r with aQ := some ⟨g, 0, none⟩, cQ := cap, ls := r.ls ++ [(Al, cl)] }) (c' := { c with pols := c.pols ++ [(a, b, l)] }) ?_ (by decide) (by simp [kOf]) rfl rfl rfl ⟨h.lim.names, h.lim.lnames, h.lim.links, h.lim.pfx, by simp; omega, h.lim.dems, h.lim.ov, h.lim.tm, h.lim.giv, h.lim.sy⟩ (by simp [h.ll])
  simpa [rowsOf, hz] using hr
theorem St.pushP {x : Int × Int × Int} {g cap : Nat} {tmp : Obj} (h : St B pb sb xb yb r c wv i dry W) (hown : w1.ownsRow B 92 3 (.slice (some ⟨g, 0, none⟩) (c.pfx.length + 1) cap) (c.pfx.length + 1) (c.pfx.flatMap pfV ++ pfV x))
    (hg : (W.alloc tmp).grownBy w1 (Value.slice r.aP c.pfx.length r.cP).ownBlock) (hat : (Value.slice r.aP c.pfx.length r.cP).ownBlock = some g ∨ g = (W.alloc tmp).heap.size) (hlim : c.pfx.length < 100000) :
    St B pb sb xb yb { r with aP := some ⟨g, 0, none⟩, cP := cap } { c with pfx := c.pfx ++ [x] } wv i dry (w1.setCell ⟨pb, 5, none⟩ (.slice (some ⟨g, 0, none⟩) (c.pfx.length + 1) cap)) ∧ LoM B [pb, sb, xb, yb] W (w1.setCell ⟨pb, 5, none⟩ (.slice (some ⟨g, 0, none⟩) (c.pfx.length + 1) cap)) ∧ w1.cell? ⟨pb, 5, none⟩ = some (.slice r.aP c.pfx.length r.cP) ∧ w1.frozen? ⟨pb, 5, none⟩ = false := by
  have hr := Rows.push (L1 := [_, _, _]) (R := ⟨92, 3, r.aP, r.cP, c.pfx.length, c.pfx.flatMap pfV⟩) h.rows hown hg hat
  refine h.pushG (h.loA h.ownP hg) (r' := { r with aP := some ⟨g, 0, none⟩, cP := cap }) (c' := { c with pfx := c.pfx ++ [x] }) ?_ (by decide) (by simp [kOf]) rfl rfl rfl ⟨h.lim.names, h.lim.lnames, h.lim.links, by simp; omega, h.lim.pols, h.lim.dems, h.lim.ov, h.lim.tm, h.lim.giv, h.lim.sy⟩ h.ll
  simpa [rowsOf] using hr
end

end Go.Proofs.YtpofbhaipeiegaaGreatDoor
