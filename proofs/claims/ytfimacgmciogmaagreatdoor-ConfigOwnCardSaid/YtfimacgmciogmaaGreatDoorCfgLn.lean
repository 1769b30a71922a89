/-
  config's parser: line (printed by gen_cfgln.py).
-/
import Derived.Test.YtfimacgmciogmaaGreatDoorCfgPfx
import Derived.Defers
import Derived.Recover
import Derived.Laws.Pointers
namespace Go.Proofs.YtfimacgmciogmaaGreatDoor
set_option linter.unusedSimpArgs false
set_option linter.unusedVariables false
open Go.RowKit Go.Shelf Go.Sort
def lineS (dry : Bool) (c : Cf) : List (List UInt8) → Except Int Cf
 | [] => .error 3
 | w :: r =>
  if w = kNode then nodeS dry c r else if w = kLink then linkS dry c r else if w = kLet then letS dry c r else if w = kPrefix then prefixS dry c r
  else if w = kPolicy then policyS dry c r else if w = kDemand then demandS dry c r else if w = kTimer then timerS dry c r else .error 3
/-! The deferred closure. -/
theorem assert_errno (v : Value) (xT : TypeId) (w : World) : (Instr.typeAssert (.iface 34 v) xT 34 true).run Tryz.prog w = .ok (.tuple #[v, .bool true]) w := by kernel_rfl
set_option maxRecDepth 100000 in
set_option maxHeartbeats 2000000 in
theorem line1_panicking (p : Addr) (x c : Int) (older : List PanicEntry) (w : World) (hc : w.cell? p = some (.int .i64 x)) (hz : w.frozen? p = false) :
  CallsD Tryz.prog 32 #[.pointer (some p)] (.panicking ({ v := .iface 34 (.int .i64 c), recovered := false } :: older)) w fun e u' w' =>
   e = .returned (.tuple #[]) ∧ u' = .panicking ({ v := .iface 34 (.int .i64 c), recovered := true } :: older) ∧ w' = (w.setCell p (.int .i64 3)).setCell p (.int .i64 c) := by
 refine callsD_of_wpS Tryz.func32 rfl fun c₀ cs hu => ?_
 simp only [Tryz.ntmps32, List.size_toArray, List.length_cons, List.length_nil, Nat.reduceAdd, Nat.reduceSub, Array.replicate_succ, Array.replicate_zero, List.push_toArray, List.append_toArray, List.nil_append, List.cons_append]
 apply wpS_seq
 apply wpS_region
 simp [wpOpsS, go_sem, recoverD, hu, Tryz.ntmps32, Exit.thenS]
 refine wpS_of_wp ?_
 obtain ⟨b, o, q⟩ := p
 have has := assert_errno (.int .i64 c)
 go_wp2
 cases c₀
 simp_all [bodyPostS, results, Tryz.results32]
set_option maxRecDepth 100000 in
set_option maxHeartbeats 2000000 in
theorem line1_idle (p : Addr) (w : World) :
  CallsD Tryz.prog 32 #[.pointer (some p)] .returning w fun e u' w' => e = .returned (.tuple #[]) ∧ u' = .returning ∧ w' = w := by
 refine callsD_of_wpS Tryz.func32 rfl fun c₀ cs hu => ?_
 simp only [Tryz.ntmps32, List.size_toArray, List.length_cons, List.length_nil, Nat.reduceAdd, Nat.reduceSub, Array.replicate_succ, Array.replicate_zero, List.push_toArray, List.append_toArray, List.nil_append, List.cons_append]
 apply wpS_seq
 apply wpS_region
 simp [wpOpsS, go_sem, recoverD, hu, Tryz.ntmps32, Exit.thenS]
 refine wpS_of_wp ?_
 go_wp2
 cases c₀
 simp_all [bodyPostS, results, Tryz.results32]
theorem LoP.trans2 {base : Nat} {X : List Nat} {A B C D : World} (h : LoP base X A B) (g : LoP base X B C) (k : LoP base X C D) : LoP base X A D := (h.trans g).trans k
/-! The map of the statements. -/
theorem zero_func (w : World) : (zeroValue 1).run Tryz.prog w = .ok .nilFunc w := by kernel_rfl
theorem stm_made (pb : Nat) (W : World) : ∃ w1 w2 w3 w4 w5 w6 w7 : World,
  (Instr.mapUpdate 95 (.map (some (W.heap.size + 1))) (.string ⟨#[110, 111, 100, 101]⟩) (.func (.func 33) #[.pointer (some ⟨pb, 0, none⟩)] #[])).run Tryz.prog ((W.alloc (.cells #[.int .i64 0] 34)).alloc (.map #[] 0)) = .ok () w1 ∧
  (Instr.mapUpdate 95 (.map (some (W.heap.size + 1))) (.string ⟨#[108, 105, 110, 107]⟩) (.func (.func 34) #[.pointer (some ⟨pb, 0, none⟩)] #[])).run Tryz.prog w1 = .ok () w2 ∧
  (Instr.mapUpdate 95 (.map (some (W.heap.size + 1))) (.string ⟨#[108, 101, 116]⟩) (.func (.func 35) #[.pointer (some ⟨pb, 0, none⟩)] #[])).run Tryz.prog w2 = .ok () w3 ∧
  (Instr.mapUpdate 95 (.map (some (W.heap.size + 1))) (.string ⟨#[112, 114, 101, 102, 105, 120]⟩) (.func (.func 36) #[.pointer (some ⟨pb, 0, none⟩)] #[])).run Tryz.prog w3 = .ok () w4 ∧
  (Instr.mapUpdate 95 (.map (some (W.heap.size + 1))) (.string ⟨#[112, 111, 108, 105, 99, 121]⟩) (.func (.func 37) #[.pointer (some ⟨pb, 0, none⟩)] #[])).run Tryz.prog w4 = .ok () w5 ∧
  (Instr.mapUpdate 95 (.map (some (W.heap.size + 1))) (.string ⟨#[100, 101, 109, 97, 110, 100]⟩) (.func (.func 38) #[.pointer (some ⟨pb, 0, none⟩)] #[])).run Tryz.prog w5 = .ok () w6 ∧
  (Instr.mapUpdate 95 (.map (some (W.heap.size + 1))) (.string ⟨#[116, 105, 109, 101, 114]⟩) (.func (.func 39) #[.pointer (some ⟨pb, 0, none⟩)] #[])).run Tryz.prog w6 = .ok () w7 ∧
  MapAt Tryz.prog 9 (W.heap.size + 1) [((.string ⟨#[110, 111, 100, 101]⟩ : Value), ((.func (.func 33) #[.pointer (some ⟨pb, 0, none⟩)] #[]) : Value)), ((.string ⟨#[108, 105, 110, 107]⟩ : Value), ((.func (.func 34) #[.pointer (some ⟨pb, 0, none⟩)] #[]) : Value)), ((.string ⟨#[108, 101, 116]⟩ : Value), ((.func (.func 35) #[.pointer (some ⟨pb, 0, none⟩)] #[]) : Value)), ((.string ⟨#[112, 114, 101, 102, 105, 120]⟩ : Value), ((.func (.func 36) #[.pointer (some ⟨pb, 0, none⟩)] #[]) : Value)), ((.string ⟨#[112, 111, 108, 105, 99, 121]⟩ : Value), ((.func (.func 37) #[.pointer (some ⟨pb, 0, none⟩)] #[]) : Value)), ((.string ⟨#[100, 101, 109, 97, 110, 100]⟩ : Value), ((.func (.func 38) #[.pointer (some ⟨pb, 0, none⟩)] #[]) : Value)), ((.string ⟨#[116, 105, 109, 101, 114]⟩ : Value), ((.func (.func 39) #[.pointer (some ⟨pb, 0, none⟩)] #[]) : Value))] w7 ∧ w7.heap[W.heap.size]? = some (.cells #[.int .i64 0] 34 (0, 0)) ∧ Below W.heap.size W w7 := by
 have hw0 : (W.alloc (.cells #[.int .i64 0] 34)).heap.size = W.heap.size + 1 := by simp
 have m0 := MapAt.made Tryz.prog 9 (W.alloc (.cells #[.int .i64 0] 34))
 rw [hw0] at m0
 have b0 : (W.alloc (.cells #[.int .i64 0] 34)).heap[W.heap.size]? = some (.cells #[.int .i64 0] 34 (0, 0)) := heap_alloc_new W _
 have g0 : ((W.alloc (.cells #[.int .i64 0] 34)).alloc (.map #[] 0)).heap[W.heap.size]? = some (.cells #[.int .i64 0] 34 (0, 0)) := (Below.heap_alloc _ _ _ (by simp)).trans b0
 have B0 : Below W.heap.size W ((W.alloc (.cells #[.int .i64 0] 34)).alloc (.map #[] 0)) := ((Below.refl _ W).alloc (Nat.le_refl _) _).alloc (by simp) _
 obtain ⟨w1, e1, m1, g1⟩ := m0.store key_str Tryz.underlying95 (keyS (P := Tryz.prog) Tryz.underlying9 (l := [110, 111, 100, 101]) (by decide)) (.func (.func 33) #[.pointer (some ⟨pb, 0, none⟩)] #[]) (by intro x hx e; exact absurd hx (by simp))
 obtain ⟨w2, e2, m2, g2⟩ := m1.store key_str Tryz.underlying95 (keyS (P := Tryz.prog) Tryz.underlying9 (l := [108, 105, 110, 107]) (by decide)) (.func (.func 34) #[.pointer (some ⟨pb, 0, none⟩)] #[]) (by intro x hx e; simp only [List.mem_cons, List.not_mem_nil, or_false, List.nil_append, List.cons_append] at hx; subst hx <;> simp at e)
 obtain ⟨w3, e3, m3, g3⟩ := m2.store key_str Tryz.underlying95 (keyS (P := Tryz.prog) Tryz.underlying9 (l := [108, 101, 116]) (by decide)) (.func (.func 35) #[.pointer (some ⟨pb, 0, none⟩)] #[]) (by intro x hx e; simp only [List.mem_cons, List.not_mem_nil, or_false, List.nil_append, List.cons_append] at hx; rcases hx with rfl | rfl <;> simp at e)
 obtain ⟨w4, e4, m4, g4⟩ := m3.store key_str Tryz.underlying95 (keyS (P := Tryz.prog) Tryz.underlying9 (l := [112, 114, 101, 102, 105, 120]) (by decide)) (.func (.func 36) #[.pointer (some ⟨pb, 0, none⟩)] #[]) (by intro x hx e; simp only [List.mem_cons, List.not_mem_nil, or_false, List.nil_append, List.cons_append] at hx; rcases hx with rfl | rfl | rfl <;> simp at e)
 obtain ⟨w5, e5, m5, g5⟩ := m4.store key_str Tryz.underlying95 (keyS (P := Tryz.prog) Tryz.underlying9 (l := [112, 111, 108, 105, 99, 121]) (by decide)) (.func (.func 37) #[.pointer (some ⟨pb, 0, none⟩)] #[]) (by intro x hx e; simp only [List.mem_cons, List.not_mem_nil, or_false, List.nil_append, List.cons_append] at hx; rcases hx with rfl | rfl | rfl | rfl <;> simp at e)
 obtain ⟨w6, e6, m6, g6⟩ := m5.store key_str Tryz.underlying95 (keyS (P := Tryz.prog) Tryz.underlying9 (l := [100, 101, 109, 97, 110, 100]) (by decide)) (.func (.func 38) #[.pointer (some ⟨pb, 0, none⟩)] #[]) (by intro x hx e; simp only [List.mem_cons, List.not_mem_nil, or_false, List.nil_append, List.cons_append] at hx; rcases hx with rfl | rfl | rfl | rfl | rfl <;> simp at e)
 obtain ⟨w7, e7, m7, g7⟩ := m6.store key_str Tryz.underlying95 (keyS (P := Tryz.prog) Tryz.underlying9 (l := [116, 105, 109, 101, 114]) (by decide)) (.func (.func 39) #[.pointer (some ⟨pb, 0, none⟩)] #[]) (by intro x hx e; simp only [List.mem_cons, List.not_mem_nil, or_false, List.nil_append, List.cons_append] at hx; rcases hx with rfl | rfl | rfl | rfl | rfl | rfl <;> simp at e)
 have hk : ∀ (x y : World), x.grownBy y (some (W.heap.size + 1)) → x.heap[W.heap.size]? = some (.cells #[.int .i64 0] 34 (0, 0)) → Below W.heap.size W x → y.heap[W.heap.size]? = some (.cells #[.int .i64 0] 34 (0, 0)) ∧ Below W.heap.size W y := fun x y g h b => by
  refine ⟨(g.block _ (lt_of_heap h) (fun e => by injection e with e; omega)).trans h, b.grown g b.size (fun k e => by injection e with e; omega)⟩
 obtain ⟨h1, B1⟩ := hk _ _ g1 g0 B0
 obtain ⟨h2, B2⟩ := hk _ _ g2 h1 B1
 obtain ⟨h3, B3⟩ := hk _ _ g3 h2 B2
 obtain ⟨h4, B4⟩ := hk _ _ g4 h3 B3
 obtain ⟨h5, B5⟩ := hk _ _ g5 h4 B4
 obtain ⟨h6, B6⟩ := hk _ _ g6 h5 B5
 obtain ⟨h7, B7⟩ := hk _ _ g7 h6 B6
 exact ⟨w1, w2, w3, w4, w5, w6, w7, e1, e2, e3, e4, e5, e6, e7, m7, h7, B7⟩
/-- A line before it is read. -/
structure LN (B pb sb xb yb : Nat) (r : Rws) (c : Cf) (A : Option Addr) (cw : Nat) (all : List (List UInt8)) (dry : Bool) (i : Nat) (W : World) : Prop where
 st : St B pb sb xb yb r c (.slice A all.length cw) i dry W
 rd : Rd W A (all.map strW)
 aw : ∀ b o s, A = some ⟨b, o, s⟩ → b ≠ pb ∧ b < W.heap.size
 al : all.length ≤ 10000 ∧ ∀ x ∈ all, x ≠ [] ∧ x.length ≤ 10000
/-- How a line ends. -/
def RetL (B pb sb xb yb : Nat) (r : Rws) (c : Cf) (A : Option Addr) (cw : Nat) (all : List (List UInt8)) (dry : Bool) (W : World) (res : Except Int Cf) (e : Ending) (W' : World) : Prop :=
 match res with
 | .ok c' => e = .returned (.int .i64 0) ∧ LoM B [pb, sb, xb, yb] W W' ∧ ∃ r' i, St B pb sb xb yb r' c' (.slice A all.length cw) i dry W' ∧ (dry = true → c' = c ∧ LoN pb W W') ∧ r'.ex = r.ex
 | .error x => e = .returned (.int .i64 x) ∧ LoN pb W W'
section
variable {B pb sb xb yb : Nat} {r : Rws} {c : Cf} {A : Option Addr} {cw : Nat} {all : List (List UInt8)} {dry : Bool} {rest : List (List UInt8)} {i : Nat} {W W' w7 : World} {wv : Value}
def eRow (rb : Nat) (x : Int) : Row := ⟨34, 1, some ⟨rb, 0, none⟩, 1, 1, [.int .i64 x]⟩
theorem Rows.ins {L1 L2 : List Row} {R : Row} (h : Rows B (L1 ++ L2) W) (ho : W.ownsRow B R.e R.s (.slice R.A R.n R.c) R.n R.xs) (hf : ∀ g, fldA R.A = some g → ∀ S ∈ L1 ++ L2, fldA S.A ≠ some g) : Rows B (L1 ++ R :: L2) W := by
 have ap := List.pairwise_append.1 h.apart
 refine ⟨fun S hS => ?_, List.pairwise_append.2 ⟨ap.1, List.pairwise_cons.2 ⟨fun S hS g e => hf g e S (by simp [hS]), ap.2.1⟩, fun S hS T hT => ?_⟩⟩
 ·rcases List.mem_append.1 hS with hS | hS
  ·exact h.own S (by simp [hS])
  ·rcases List.mem_cons.1 hS with rfl | hS
   ·exact ho
   ·exact h.own S (by simp [hS])
 ·rcases List.mem_cons.1 hT with rfl | hT
  ·intro g e e'
   exact hf g e' S (by simp [hS]) e
  ·exact ap.2.2 S hS T hT
theorem Rows.del {L1 L2 : List Row} {R : Row} (h : Rows B (L1 ++ R :: L2) W) : Rows B (L1 ++ L2) W ∧ ∀ g, fldA R.A = some g → ∀ S ∈ L1 ++ L2, fldA S.A ≠ some g := by
 have ap := List.pairwise_append.1 h.apart
 have ap2 := List.pairwise_cons.1 ap.2.1
 refine ⟨⟨fun S hS => h.own S (by rcases List.mem_append.1 hS with hS | hS <;> simp [hS]), List.pairwise_append.2 ⟨ap.1, ap2.2, fun S hS T hT => ap.2.2 S hS T (by simp [hT])⟩⟩, fun g e S hS e' => ?_⟩
 rcases List.mem_append.1 hS with hS | hS
 ·exact ap.2.2 S hS R (by simp) g e' e
 ·exact ap2.1 S hS g e e'
theorem own_cell {rb : Nat} {x : Int} (h : W.heap[rb]? = some (.cells #[.int .i64 x] 34 (0, 0))) (hb : B ≤ rb) : W.ownsRow B 34 1 (.slice (some ⟨rb, 0, none⟩) 1 1) 1 [.int .i64 x] :=
 ⟨rfl, .inr ⟨rb, 1, #[.int .i64 x], rfl, hb, h, by omega, by unfold maxLen; omega, rfl, rfl⟩⟩
/-- The result's cell joins the rows that abide. -/
theorem St.withEx {rb : Nat} {x : Int} {wv' : Value} {i' : Nat} (h : St B pb sb xb yb r c wv' i' dry W) (hs : W.heap.size ≤ rb) (hl : LoN pb W W') (hp : St B pb sb xb yb r c wv i dry W') (hc : W'.heap[rb]? = some (.cells #[.int .i64 x] 34 (0, 0))) :
  St B pb sb xb yb { r with ex := eRow rb x :: r.ex } c wv i dry W' := by
 refine ⟨hp.blk, ?_, hp.sm, hp.xm, hp.ym, hp.lim, hp.ll, hp.bl, hp.sz⟩
 have hr := hp.rows
 have := Rows.ins (L1 := [_, _, _, _, _, _, _]) (R := eRow rb x) hr (own_cell hc (Nat.le_trans h.sz hs)) (fun g e S hS e' => by
  have h1 := (h.rows.lt (R := S) hS e').2
  simp only [eRow, fldA, Option.some.injEq] at e
  omega)
 exact this
theorem St.exCell {rb : Nat} {x : Int} {ex : List Row} (h : St B pb sb xb yb r c wv i dry W) (he : r.ex = eRow rb x :: ex) : W.cell? ⟨rb, 0, none⟩ = some (.int .i64 x) ∧ W.frozen? ⟨rb, 0, none⟩ = false ∧ B ≤ rb ∧ W.heap[rb]? = some (.cells #[.int .i64 x] 34 (0, 0)) := by
 have ho := h.rows.own (eRow rb x) (by simp [rowsOf, he])
 rcases ho.2 with ⟨e, _⟩ | ⟨g, cap, cur, e, hb, hg, h1, h2, h3, h4⟩
 ·injection e with e _ _; cases e
 ·injection e with e _ e2
  injection e with e
  injection e with e _ _
  subst e
  have hcur : cur = #[.int .i64 x] := by
   have e3 : (1 : Nat) = cap := e2
   have h5 : cur.size = cap * 1 := h3
   have h6 : cur.toList.take (1 * 1) = [.int .i64 x] := h4
   have hlen : cur.size = 1 := by omega
   apply Array.ext'
   have h7 : cur.toList.length = 1 := by simpa using hlen
   rw [← List.take_of_length_le (l := cur.toList) (i := 1) (by omega)]
   simpa using h6
  subst hcur
  exact ⟨(Lib.cell_of_heap hg 0).trans rfl, Lib.frozen_of_heap hg 0, hb, hg⟩
/-- The result's cell leaves them, and is stored. -/
theorem St.dropEx {rb : Nat} {x : Int} {ex : List Row} (h : St B pb sb xb yb r c wv i dry W) (he : r.ex = eRow rb x :: ex) (u : Value) : St B pb sb xb yb { r with ex := ex } c wv i dry (W.setCell ⟨rb, 0, none⟩ u) := by
 have hr : Rows B ((rowsOf r c).take 7 ++ eRow rb x :: (ex ++ (c.pols.zip r.ls).map fun x => ⟨78, 2, x.2.1, x.2.2, x.1.2.2.length, x.1.2.2.flatMap sgV⟩)) W := by
  have := h.rows
  rw [show rowsOf r c = (rowsOf r c).take 7 ++ (r.ex ++ (c.pols.zip r.ls).map fun x => ⟨78, 2, x.2.1, x.2.2, x.1.2.2.length, x.1.2.2.flatMap sgV⟩) from rfl, he] at this
  exact this
 obtain ⟨d1, d2⟩ := hr.del
 obtain ⟨_, _, hb, _⟩ := h.exCell he
 have hlt := h.bl.1
 have hx : ∀ k, k ≠ rb → (W.setCell ⟨rb, 0, none⟩ u).heap[k]? = W.heap[k]? := fun k hk => Below.heap_setCell _ _ _ _ (by simpa using hk)
 refine ⟨(hx pb (by omega)).trans h.blk, ?_, h.sm.kept (hx sb (by omega)), h.xm.kept (hx xb (by omega)), h.ym.kept (hx yb (by omega)), h.lim, h.ll, h.bl, by simpa using h.sz⟩
 exact ⟨fun R hR => own_keepG (d1.own R hR) fun g e => hx g (fun e2 => by
  rw [ownBlock_A] at e
  subst e2
  exact d2 g rfl R hR e), d1.apart⟩
end
section
variable {B pb sb xb yb : Nat} {r : Rws} {c : Cf} {A : Option Addr} {cw : Nat} {dry : Bool} {w : List UInt8} {rest : List (List UInt8)} {i : Nat} {W W' w7 : World} {wv : Value}
theorem LN.begin (h : LN B pb sb xb yb r c A cw (w :: rest) dry i W) (hb : Below W.heap.size W w7) : LS B pb sb xb yb r c A cw (w :: rest) dry rest (w7.setCell ⟨pb, 23, none⟩ (.int .i64 1)) ∧ LoN pb W (w7.setCell ⟨pb, 23, none⟩ (.int .i64 1)) := by
 have hlt := h.st.bl.1
 have hsz := h.st.sz
 have hx : ∀ k, k ≠ pb → k < W.heap.size → (w7.setCell ⟨pb, 23, none⟩ (.int .i64 1)).heap[k]? = W.heap[k]? := fun k h1 h2 => (Below.heap_setCell _ _ _ _ (by simpa using h1)).trans (hb.block k h2)
 have h7 : w7.heap[pb]? = some (.cells (pcells (kOf r c sb xb yb) (.slice A (w :: rest).length cw) i dry) 52 (0, 0)) := (hb.block pb (by omega)).trans h.st.blk
 have hl : LoN pb W (w7.setCell ⟨pb, 23, none⟩ (.int .i64 1)) := LoP.trans (LoN.below hb) (LoP.setC h7 (.inl (by simp)) hb.size _)
 have hblk : (w7.setCell ⟨pb, 23, none⟩ (.int .i64 1)).heap[pb]? = some (.cells (pcells (kOf r c sb xb yb) (.slice A (w :: rest).length cw) ((w :: rest).length - rest.length) dry) 52 (0, 0)) := by
  have := heap_setCell_same w7 pb 23 _ _ (.int .i64 ((1 : Nat) : Int)) h7
  rw [pc_set (kOf_len r c sb xb yb)] at this
  rw [show (w :: rest).length - rest.length = 1 by simp]
  exact this
 have hpx : xb ≠ pb := fun e => by
  obtain ⟨es, cl, h1, _⟩ := h.st.xm
  rw [e, h.st.blk] at h1; cases h1
 have hpy : yb ≠ pb := fun e => by
  obtain ⟨es, cl, h1, _⟩ := h.st.ym
  rw [e, h.st.blk] at h1; cases h1
 have hps : sb ≠ pb := fun e => by
  obtain ⟨es, cl, h1, _⟩ := h.st.sm
  rw [e, h.st.blk] at h1; cases h1
 have hsm := h.st.sm.kept (hx sb hps h.st.sm.lt)
 refine ⟨⟨⟨hblk, kOf_len r c sb xb yb, ⟨[w], rfl⟩, rd_blocks h.rd (fun b o s e => hx b (h.aw b o s e).1 (h.aw b o s e).2), fun b o s e => ⟨(h.aw b o s e).1, Nat.lt_of_lt_of_le (h.aw b o s e).2 hl.size⟩, h.al, rfl, hsm, hps⟩,
  ⟨hblk, h.st.rows.keep fun g h1 h2 => hx g (by omega) h2, hsm, h.st.xm.kept (hx xb hpx h.st.xm.lt), h.st.ym.kept (hx yb hpy h.st.ym.lt), h.st.lim, h.st.ll, h.st.bl, Nat.le_trans hsz hl.size⟩⟩, hl⟩
/-- What the walk of line reads ahead of the statement. -/
theorem LN.facts (h : LN B pb sb xb yb r c A cw (w :: rest) dry i W) (hb : Below W.heap.size W w7) : ∃ ab ao, A = some ⟨ab, ao, none⟩ ∧ ab ≠ pb ∧ w7.cell? ⟨ab, ao, none⟩ = some (.string ⟨w.toArray⟩) ∧ w7.cell? ⟨pb, 22, none⟩ = some (.slice A (rest.length + 1) cw) ∧ w7.cell? ⟨pb, 23, none⟩ = some (.int .i64 (i : Int)) ∧ ∀ j, w7.frozen? ⟨pb, j, none⟩ = false := by
 obtain ⟨ab, ao, hA, hc⟩ := h.rd.at_ (k := 0) (u := strW w) rfl
 obtain ⟨h1, h2⟩ := h.aw ab ao none hA
 have hlt := h.st.bl.1
 have hsz := h.st.sz
 have h7 : w7.heap[pb]? = some (.cells (pcells (kOf r c sb xb yb) (.slice A (w :: rest).length cw) i dry) 52 (0, 0)) := (hb.block pb (by omega)).trans h.st.blk
 exact ⟨ab, ao, hA, h1, (World.cell?_of_block (hb.block ab h2)).trans (by simpa [strW] using hc), (Lib.cell_of_heap h7 22).trans (pc_w (kOf_len r c sb xb yb)), (Lib.cell_of_heap h7 23).trans (pc_i (kOf_len r c sb xb yb)), fun j => Lib.frozen_of_heap h7 j⟩
end
set_option maxHeartbeats 8000000 in
set_option maxRecDepth 100000 in
theorem line_node {B pb sb xb yb : Nat} {r : Rws} {c : Cf} {A : Option Addr} {cw : Nat} {dry : Bool} {rest : List (List UInt8)} {i : Nat} {W : World} (h : LN B pb sb xb yb r c A cw ([110, 111, 100, 101] :: rest) dry i W) (hE : Env pb W) (hpl : c.pfx.length < 100000) :
  Calls Tryz.prog 12 #[.pointer (some ⟨pb, 0, none⟩)] W (RetL B pb sb xb yb r c A cw ([110, 111, 100, 101] :: rest) dry W (nodeS dry c rest)) := by
 obtain ⟨w1, w2, w3, w4, w5, w6, w7, e1, e2, e3, e4, e5, e6, e7, hm, hc, hb⟩ := stm_made pb W
 obtain ⟨hls, hl0⟩ := h.begin hb
 obtain ⟨ab, ao, rfl, hne, q0, q1, q2, qf⟩ := h.facts hb
 have hcx : (w7.setCell ⟨pb, 23, none⟩ (.int .i64 1)).heap[W.heap.size]? = some (.cells #[.int .i64 0] 34 (0, 0)) := (Below.heap_setCell _ _ _ _ (by have := h.st.bl.1; have := h.st.sz; simp; omega)).trans hc
 have hst := h.st.withEx (Nat.le_refl _) hl0 hls.st hcx
 have hlk := (hm.kept (w' := w7.setCell ⟨pb, 23, none⟩ (.int .i64 1)) (Below.heap_setCell _ _ _ _ (by have := h.st.bl.1; have := h.st.sz; simp; omega))).hit key_str Tryz.underlying95 (keyS (P := Tryz.prog) Tryz.underlying9 (l := [110, 111, 100, 101]) (by decide)) true (v := (.func (.func 33) #[.pointer (some ⟨pb, 0, none⟩)] #[])) (by simp)
 simp only [if_true] at hlk
 obtain ⟨V, hV⟩ : ∃ V, V = nodeS dry c rest := ⟨_, rfl⟩
 rw [← hV]
 have HE := Lib.hid hE
 have HPL := Lib.hid hpl
 have HL0 := Lib.hid hl0
 have HS : Hid (Calls Tryz.prog 33 #[.pointer (some ⟨pb, 0, none⟩)] (w7.setCell ⟨pb, 23, none⟩ (.int .i64 1)) (RetS B pb sb xb yb { r with ex := eRow W.heap.size 0 :: r.ex } c (some ⟨ab, ao, none⟩) cw ([110, 111, 100, 101] :: rest) dry (w7.setCell ⟨pb, 23, none⟩ (.int .i64 1)) V)) := Lib.hid (by rw [hV]; exact cfg_node ⟨hls.ps, hst⟩)
 have HC := Lib.hid hcx
 have HSZ := Lib.hid h.st.sz
 have HPB : Hid (pb < W.heap.size) := Lib.hid (by have := h.st.bl.1; have := h.st.sz; omega)
 have hmf : ∀ (fn : Fn) (first cap : Array Value) (w : World), (Instr.makeFunc fn first cap).run Tryz.prog w = .ok (.func fn first cap) w := fun _ _ _ _ => rfl
 have hmm := @run_makeMap Tryz.prog
 clear hm hc hb hls hl0 hcx hst hV h hE hpl
 cases V with
 | error x =>
  go_enter_defers Tryz.func12, Tryz.ntmps12
  go_wp2_with (first | (go_at_call 40; (with_reducible refine (cfg_grammar_ok _ _).mono ?_); rintro e w9 ⟨rfl, rfl⟩) | (go_at_call 33; refine HS.out.mono ?_; rintro e w9 ⟨rfl, hl9⟩; have HL9 := Lib.hid hl9; clear hl9))
  have hx9 : w9.heap[W.heap.size]? = some (.cells #[.int .i64 0] 34 (0, 0)) := (HL9.out.blk _ (lt_of_heap HC.out) (by have := HPB.out; simp; omega)).trans HC.out
  have hxa : (w9.setCell ⟨W.heap.size, 0, none⟩ (.int .i64 3)).heap[W.heap.size]? = some (.cells #[.int .i64 3] 34 (0, 0)) := heap_setCell_same w9 W.heap.size 0 _ _ _ hx9
  have hxb : ((w9.setCell ⟨W.heap.size, 0, none⟩ (.int .i64 3)).setCell ⟨W.heap.size, 0, none⟩ (.int .i64 x)).heap[W.heap.size]? = some (.cells #[.int .i64 x] 34 (0, 0)) := heap_setCell_same _ W.heap.size 0 _ _ _ hxa
  have hcb := Lib.cell_of_heap hxb 0
  refine leaves_cons (f := 32) (args := #[.pointer (some ⟨W.heap.size, 0, none⟩)]) (by simp) (by simp [go_sem]) ?_
  refine (line1_panicking ⟨W.heap.size, 0, none⟩ 0 x [] w9 ((Lib.cell_of_heap hx9 0).trans rfl) (Lib.frozen_of_heap hx9 0)).mono ?_
  rintro e u' w'' ⟨rfl, rfl, rfl⟩
  refine ⟨.int .i64 x, ?_, rfl, ?_⟩
  ·simp [results, Tryz.results12, go_sem, hcb]
  ·exact (HL0.out.trans HL9.out).trans2 (LoP.setC hx9 (.inr (Nat.le_refl _)) (HL0.out.trans HL9.out).size _) (LoP.setC hxa (.inr (Nat.le_refl _)) (by simpa using (HL0.out.trans HL9.out).size) _)
 | ok c' =>
  go_enter_defers Tryz.func12, Tryz.ntmps12
  go_wp2_with (first | (go_at_call 40; (with_reducible refine (cfg_grammar_ok _ _).mono ?_); rintro e w9 ⟨rfl, rfl⟩) | (go_at_call 33; refine HS.out.mono ?_; rintro e w9 ⟨rfl, hm9, r', i', hst9, hdry9, hex9⟩; obtain ⟨x0, xf, xb0, xh⟩ := hst9.exCell hex9; have HM9 := Lib.hid hm9; have HST9 := Lib.hid hst9; have HDR9 := Lib.hid hdry9; have HEX9 := Lib.hid hex9; clear hm9 hst9 hdry9 hex9))
  have hxa : (w9.setCell ⟨W.heap.size, 0, none⟩ (.int .i64 0)).heap[W.heap.size]? = some (.cells #[.int .i64 0] 34 (0, 0)) := heap_setCell_same w9 W.heap.size 0 _ _ _ xh
  have hcb := Lib.cell_of_heap hxa 0
  refine leaves_cons (f := 32) (args := #[.pointer (some ⟨W.heap.size, 0, none⟩)]) (by simp) (by simp [go_sem]) ?_
  refine (line1_idle ⟨W.heap.size, 0, none⟩ _).mono ?_
  rintro e u' w'' ⟨rfl, rfl, rfl⟩
  refine ⟨.int .i64 0, ?_, rfl, ?_, { r' with ex := r.ex }, i', HST9.out.dropEx HEX9.out _, fun hd => ?_, rfl⟩
  ·simp [results, Tryz.results12, go_sem, hcb]
  ·exact ((HL0.out.toM HSZ.out (by simp)).trans HM9.out).trans ((LoP.setC (X := [pb]) xh (.inr HSZ.out) (Nat.le_trans HSZ.out (Nat.le_trans HL0.out.size HM9.out.size)) _).toM (by simp))
  ·obtain ⟨d1, _, d3⟩ := HDR9.out hd
   exact ⟨d1, LoP.trans (HL0.out.trans d3) (LoP.setC xh (.inr (Nat.le_refl _)) (HL0.out.trans d3).size _)⟩
set_option maxHeartbeats 8000000 in
set_option maxRecDepth 100000 in
theorem line_link {B pb sb xb yb : Nat} {r : Rws} {c : Cf} {A : Option Addr} {cw : Nat} {dry : Bool} {rest : List (List UInt8)} {i : Nat} {W : World} (h : LN B pb sb xb yb r c A cw ([108, 105, 110, 107] :: rest) dry i W) (hE : Env pb W) (hpl : c.pfx.length < 100000) :
  Calls Tryz.prog 12 #[.pointer (some ⟨pb, 0, none⟩)] W (RetL B pb sb xb yb r c A cw ([108, 105, 110, 107] :: rest) dry W (linkS dry c rest)) := by
 obtain ⟨w1, w2, w3, w4, w5, w6, w7, e1, e2, e3, e4, e5, e6, e7, hm, hc, hb⟩ := stm_made pb W
 obtain ⟨hls, hl0⟩ := h.begin hb
 obtain ⟨ab, ao, rfl, hne, q0, q1, q2, qf⟩ := h.facts hb
 have hcx : (w7.setCell ⟨pb, 23, none⟩ (.int .i64 1)).heap[W.heap.size]? = some (.cells #[.int .i64 0] 34 (0, 0)) := (Below.heap_setCell _ _ _ _ (by have := h.st.bl.1; have := h.st.sz; simp; omega)).trans hc
 have hst := h.st.withEx (Nat.le_refl _) hl0 hls.st hcx
 have hlk := (hm.kept (w' := w7.setCell ⟨pb, 23, none⟩ (.int .i64 1)) (Below.heap_setCell _ _ _ _ (by have := h.st.bl.1; have := h.st.sz; simp; omega))).hit key_str Tryz.underlying95 (keyS (P := Tryz.prog) Tryz.underlying9 (l := [108, 105, 110, 107]) (by decide)) true (v := (.func (.func 34) #[.pointer (some ⟨pb, 0, none⟩)] #[])) (by simp)
 simp only [if_true] at hlk
 obtain ⟨V, hV⟩ : ∃ V, V = linkS dry c rest := ⟨_, rfl⟩
 rw [← hV]
 have HE := Lib.hid hE
 have HPL := Lib.hid hpl
 have HL0 := Lib.hid hl0
 have HS : Hid (Calls Tryz.prog 34 #[.pointer (some ⟨pb, 0, none⟩)] (w7.setCell ⟨pb, 23, none⟩ (.int .i64 1)) (RetS B pb sb xb yb { r with ex := eRow W.heap.size 0 :: r.ex } c (some ⟨ab, ao, none⟩) cw ([108, 105, 110, 107] :: rest) dry (w7.setCell ⟨pb, 23, none⟩ (.int .i64 1)) V)) := Lib.hid (by rw [hV]; exact cfg_link ⟨hls.ps, hst⟩)
 have HC := Lib.hid hcx
 have HSZ := Lib.hid h.st.sz
 have HPB : Hid (pb < W.heap.size) := Lib.hid (by have := h.st.bl.1; have := h.st.sz; omega)
 have hmf : ∀ (fn : Fn) (first cap : Array Value) (w : World), (Instr.makeFunc fn first cap).run Tryz.prog w = .ok (.func fn first cap) w := fun _ _ _ _ => rfl
 have hmm := @run_makeMap Tryz.prog
 clear hm hc hb hls hl0 hcx hst hV h hE hpl
 cases V with
 | error x =>
  go_enter_defers Tryz.func12, Tryz.ntmps12
  go_wp2_with (first | (go_at_call 40; (with_reducible refine (cfg_grammar_ok _ _).mono ?_); rintro e w9 ⟨rfl, rfl⟩) | (go_at_call 34; refine HS.out.mono ?_; rintro e w9 ⟨rfl, hl9⟩; have HL9 := Lib.hid hl9; clear hl9))
  have hx9 : w9.heap[W.heap.size]? = some (.cells #[.int .i64 0] 34 (0, 0)) := (HL9.out.blk _ (lt_of_heap HC.out) (by have := HPB.out; simp; omega)).trans HC.out
  have hxa : (w9.setCell ⟨W.heap.size, 0, none⟩ (.int .i64 3)).heap[W.heap.size]? = some (.cells #[.int .i64 3] 34 (0, 0)) := heap_setCell_same w9 W.heap.size 0 _ _ _ hx9
  have hxb : ((w9.setCell ⟨W.heap.size, 0, none⟩ (.int .i64 3)).setCell ⟨W.heap.size, 0, none⟩ (.int .i64 x)).heap[W.heap.size]? = some (.cells #[.int .i64 x] 34 (0, 0)) := heap_setCell_same _ W.heap.size 0 _ _ _ hxa
  have hcb := Lib.cell_of_heap hxb 0
  refine leaves_cons (f := 32) (args := #[.pointer (some ⟨W.heap.size, 0, none⟩)]) (by simp) (by simp [go_sem]) ?_
  refine (line1_panicking ⟨W.heap.size, 0, none⟩ 0 x [] w9 ((Lib.cell_of_heap hx9 0).trans rfl) (Lib.frozen_of_heap hx9 0)).mono ?_
  rintro e u' w'' ⟨rfl, rfl, rfl⟩
  refine ⟨.int .i64 x, ?_, rfl, ?_⟩
  ·simp [results, Tryz.results12, go_sem, hcb]
  ·exact (HL0.out.trans HL9.out).trans2 (LoP.setC hx9 (.inr (Nat.le_refl _)) (HL0.out.trans HL9.out).size _) (LoP.setC hxa (.inr (Nat.le_refl _)) (by simpa using (HL0.out.trans HL9.out).size) _)
 | ok c' =>
  go_enter_defers Tryz.func12, Tryz.ntmps12
  go_wp2_with (first | (go_at_call 40; (with_reducible refine (cfg_grammar_ok _ _).mono ?_); rintro e w9 ⟨rfl, rfl⟩) | (go_at_call 34; refine HS.out.mono ?_; rintro e w9 ⟨rfl, hm9, r', i', hst9, hdry9, hex9⟩; obtain ⟨x0, xf, xb0, xh⟩ := hst9.exCell hex9; have HM9 := Lib.hid hm9; have HST9 := Lib.hid hst9; have HDR9 := Lib.hid hdry9; have HEX9 := Lib.hid hex9; clear hm9 hst9 hdry9 hex9))
  have hxa : (w9.setCell ⟨W.heap.size, 0, none⟩ (.int .i64 0)).heap[W.heap.size]? = some (.cells #[.int .i64 0] 34 (0, 0)) := heap_setCell_same w9 W.heap.size 0 _ _ _ xh
  have hcb := Lib.cell_of_heap hxa 0
  refine leaves_cons (f := 32) (args := #[.pointer (some ⟨W.heap.size, 0, none⟩)]) (by simp) (by simp [go_sem]) ?_
  refine (line1_idle ⟨W.heap.size, 0, none⟩ _).mono ?_
  rintro e u' w'' ⟨rfl, rfl, rfl⟩
  refine ⟨.int .i64 0, ?_, rfl, ?_, { r' with ex := r.ex }, i', HST9.out.dropEx HEX9.out _, fun hd => ?_, rfl⟩
  ·simp [results, Tryz.results12, go_sem, hcb]
  ·exact ((HL0.out.toM HSZ.out (by simp)).trans HM9.out).trans ((LoP.setC (X := [pb]) xh (.inr HSZ.out) (Nat.le_trans HSZ.out (Nat.le_trans HL0.out.size HM9.out.size)) _).toM (by simp))
  ·obtain ⟨d1, _, d3⟩ := HDR9.out hd
   exact ⟨d1, LoP.trans (HL0.out.trans d3) (LoP.setC xh (.inr (Nat.le_refl _)) (HL0.out.trans d3).size _)⟩
set_option maxHeartbeats 8000000 in
set_option maxRecDepth 100000 in
theorem line_let {B pb sb xb yb : Nat} {r : Rws} {c : Cf} {A : Option Addr} {cw : Nat} {dry : Bool} {rest : List (List UInt8)} {i : Nat} {W : World} (h : LN B pb sb xb yb r c A cw ([108, 101, 116] :: rest) dry i W) (hE : Env pb W) (hpl : c.pfx.length < 100000) :
  Calls Tryz.prog 12 #[.pointer (some ⟨pb, 0, none⟩)] W (RetL B pb sb xb yb r c A cw ([108, 101, 116] :: rest) dry W (letS dry c rest)) := by
 obtain ⟨w1, w2, w3, w4, w5, w6, w7, e1, e2, e3, e4, e5, e6, e7, hm, hc, hb⟩ := stm_made pb W
 obtain ⟨hls, hl0⟩ := h.begin hb
 obtain ⟨ab, ao, rfl, hne, q0, q1, q2, qf⟩ := h.facts hb
 have hcx : (w7.setCell ⟨pb, 23, none⟩ (.int .i64 1)).heap[W.heap.size]? = some (.cells #[.int .i64 0] 34 (0, 0)) := (Below.heap_setCell _ _ _ _ (by have := h.st.bl.1; have := h.st.sz; simp; omega)).trans hc
 have hst := h.st.withEx (Nat.le_refl _) hl0 hls.st hcx
 have hlk := (hm.kept (w' := w7.setCell ⟨pb, 23, none⟩ (.int .i64 1)) (Below.heap_setCell _ _ _ _ (by have := h.st.bl.1; have := h.st.sz; simp; omega))).hit key_str Tryz.underlying95 (keyS (P := Tryz.prog) Tryz.underlying9 (l := [108, 101, 116]) (by decide)) true (v := (.func (.func 35) #[.pointer (some ⟨pb, 0, none⟩)] #[])) (by simp)
 simp only [if_true] at hlk
 obtain ⟨V, hV⟩ : ∃ V, V = letS dry c rest := ⟨_, rfl⟩
 rw [← hV]
 have HE := Lib.hid hE
 have HPL := Lib.hid hpl
 have HL0 := Lib.hid hl0
 have HS : Hid (Calls Tryz.prog 35 #[.pointer (some ⟨pb, 0, none⟩)] (w7.setCell ⟨pb, 23, none⟩ (.int .i64 1)) (RetS B pb sb xb yb { r with ex := eRow W.heap.size 0 :: r.ex } c (some ⟨ab, ao, none⟩) cw ([108, 101, 116] :: rest) dry (w7.setCell ⟨pb, 23, none⟩ (.int .i64 1)) V)) := Lib.hid (by rw [hV]; exact cfg_let ⟨hls.ps, hst⟩)
 have HC := Lib.hid hcx
 have HSZ := Lib.hid h.st.sz
 have HPB : Hid (pb < W.heap.size) := Lib.hid (by have := h.st.bl.1; have := h.st.sz; omega)
 have hmf : ∀ (fn : Fn) (first cap : Array Value) (w : World), (Instr.makeFunc fn first cap).run Tryz.prog w = .ok (.func fn first cap) w := fun _ _ _ _ => rfl
 have hmm := @run_makeMap Tryz.prog
 clear hm hc hb hls hl0 hcx hst hV h hE hpl
 cases V with
 | error x =>
  go_enter_defers Tryz.func12, Tryz.ntmps12
  go_wp2_with (first | (go_at_call 40; (with_reducible refine (cfg_grammar_ok _ _).mono ?_); rintro e w9 ⟨rfl, rfl⟩) | (go_at_call 35; refine HS.out.mono ?_; rintro e w9 ⟨rfl, hl9⟩; have HL9 := Lib.hid hl9; clear hl9))
  have hx9 : w9.heap[W.heap.size]? = some (.cells #[.int .i64 0] 34 (0, 0)) := (HL9.out.blk _ (lt_of_heap HC.out) (by have := HPB.out; simp; omega)).trans HC.out
  have hxa : (w9.setCell ⟨W.heap.size, 0, none⟩ (.int .i64 3)).heap[W.heap.size]? = some (.cells #[.int .i64 3] 34 (0, 0)) := heap_setCell_same w9 W.heap.size 0 _ _ _ hx9
  have hxb : ((w9.setCell ⟨W.heap.size, 0, none⟩ (.int .i64 3)).setCell ⟨W.heap.size, 0, none⟩ (.int .i64 x)).heap[W.heap.size]? = some (.cells #[.int .i64 x] 34 (0, 0)) := heap_setCell_same _ W.heap.size 0 _ _ _ hxa
  have hcb := Lib.cell_of_heap hxb 0
  refine leaves_cons (f := 32) (args := #[.pointer (some ⟨W.heap.size, 0, none⟩)]) (by simp) (by simp [go_sem]) ?_
  refine (line1_panicking ⟨W.heap.size, 0, none⟩ 0 x [] w9 ((Lib.cell_of_heap hx9 0).trans rfl) (Lib.frozen_of_heap hx9 0)).mono ?_
  rintro e u' w'' ⟨rfl, rfl, rfl⟩
  refine ⟨.int .i64 x, ?_, rfl, ?_⟩
  ·simp [results, Tryz.results12, go_sem, hcb]
  ·exact (HL0.out.trans HL9.out).trans2 (LoP.setC hx9 (.inr (Nat.le_refl _)) (HL0.out.trans HL9.out).size _) (LoP.setC hxa (.inr (Nat.le_refl _)) (by simpa using (HL0.out.trans HL9.out).size) _)
 | ok c' =>
  go_enter_defers Tryz.func12, Tryz.ntmps12
  go_wp2_with (first | (go_at_call 40; (with_reducible refine (cfg_grammar_ok _ _).mono ?_); rintro e w9 ⟨rfl, rfl⟩) | (go_at_call 35; refine HS.out.mono ?_; rintro e w9 ⟨rfl, hm9, r', i', hst9, hdry9, hex9⟩; obtain ⟨x0, xf, xb0, xh⟩ := hst9.exCell hex9; have HM9 := Lib.hid hm9; have HST9 := Lib.hid hst9; have HDR9 := Lib.hid hdry9; have HEX9 := Lib.hid hex9; clear hm9 hst9 hdry9 hex9))
  have hxa : (w9.setCell ⟨W.heap.size, 0, none⟩ (.int .i64 0)).heap[W.heap.size]? = some (.cells #[.int .i64 0] 34 (0, 0)) := heap_setCell_same w9 W.heap.size 0 _ _ _ xh
  have hcb := Lib.cell_of_heap hxa 0
  refine leaves_cons (f := 32) (args := #[.pointer (some ⟨W.heap.size, 0, none⟩)]) (by simp) (by simp [go_sem]) ?_
  refine (line1_idle ⟨W.heap.size, 0, none⟩ _).mono ?_
  rintro e u' w'' ⟨rfl, rfl, rfl⟩
  refine ⟨.int .i64 0, ?_, rfl, ?_, { r' with ex := r.ex }, i', HST9.out.dropEx HEX9.out _, fun hd => ?_, rfl⟩
  ·simp [results, Tryz.results12, go_sem, hcb]
  ·exact ((HL0.out.toM HSZ.out (by simp)).trans HM9.out).trans ((LoP.setC (X := [pb]) xh (.inr HSZ.out) (Nat.le_trans HSZ.out (Nat.le_trans HL0.out.size HM9.out.size)) _).toM (by simp))
  ·obtain ⟨d1, _, d3⟩ := HDR9.out hd
   exact ⟨d1, LoP.trans (HL0.out.trans d3) (LoP.setC xh (.inr (Nat.le_refl _)) (HL0.out.trans d3).size _)⟩
set_option maxHeartbeats 8000000 in
set_option maxRecDepth 100000 in
theorem line_prefix {B pb sb xb yb : Nat} {r : Rws} {c : Cf} {A : Option Addr} {cw : Nat} {dry : Bool} {rest : List (List UInt8)} {i : Nat} {W : World} (h : LN B pb sb xb yb r c A cw ([112, 114, 101, 102, 105, 120] :: rest) dry i W) (hE : Env pb W) (hpl : c.pfx.length < 100000) :
  Calls Tryz.prog 12 #[.pointer (some ⟨pb, 0, none⟩)] W (RetL B pb sb xb yb r c A cw ([112, 114, 101, 102, 105, 120] :: rest) dry W (prefixS dry c rest)) := by
 obtain ⟨w1, w2, w3, w4, w5, w6, w7, e1, e2, e3, e4, e5, e6, e7, hm, hc, hb⟩ := stm_made pb W
 obtain ⟨hls, hl0⟩ := h.begin hb
 obtain ⟨ab, ao, rfl, hne, q0, q1, q2, qf⟩ := h.facts hb
 have hcx : (w7.setCell ⟨pb, 23, none⟩ (.int .i64 1)).heap[W.heap.size]? = some (.cells #[.int .i64 0] 34 (0, 0)) := (Below.heap_setCell _ _ _ _ (by have := h.st.bl.1; have := h.st.sz; simp; omega)).trans hc
 have hst := h.st.withEx (Nat.le_refl _) hl0 hls.st hcx
 have hlk := (hm.kept (w' := w7.setCell ⟨pb, 23, none⟩ (.int .i64 1)) (Below.heap_setCell _ _ _ _ (by have := h.st.bl.1; have := h.st.sz; simp; omega))).hit key_str Tryz.underlying95 (keyS (P := Tryz.prog) Tryz.underlying9 (l := [112, 114, 101, 102, 105, 120]) (by decide)) true (v := (.func (.func 36) #[.pointer (some ⟨pb, 0, none⟩)] #[])) (by simp)
 simp only [if_true] at hlk
 obtain ⟨V, hV⟩ : ∃ V, V = prefixS dry c rest := ⟨_, rfl⟩
 rw [← hV]
 have HE := Lib.hid hE
 have HPL := Lib.hid hpl
 have HL0 := Lib.hid hl0
 have HS : Hid (Calls Tryz.prog 36 #[.pointer (some ⟨pb, 0, none⟩)] (w7.setCell ⟨pb, 23, none⟩ (.int .i64 1)) (RetS B pb sb xb yb { r with ex := eRow W.heap.size 0 :: r.ex } c (some ⟨ab, ao, none⟩) cw ([112, 114, 101, 102, 105, 120] :: rest) dry (w7.setCell ⟨pb, 23, none⟩ (.int .i64 1)) V)) := Lib.hid (by rw [hV]; exact cfg_prefix ⟨hls.ps, hst⟩ (HE.out.lo HL0.out) HPL.out)
 have HC := Lib.hid hcx
 have HSZ := Lib.hid h.st.sz
 have HPB : Hid (pb < W.heap.size) := Lib.hid (by have := h.st.bl.1; have := h.st.sz; omega)
 have hmf : ∀ (fn : Fn) (first cap : Array Value) (w : World), (Instr.makeFunc fn first cap).run Tryz.prog w = .ok (.func fn first cap) w := fun _ _ _ _ => rfl
 have hmm := @run_makeMap Tryz.prog
 clear hm hc hb hls hl0 hcx hst hV h hE hpl
 cases V with
 | error x =>
  go_enter_defers Tryz.func12, Tryz.ntmps12
  go_wp2_with (first | (go_at_call 40; (with_reducible refine (cfg_grammar_ok _ _).mono ?_); rintro e w9 ⟨rfl, rfl⟩) | (go_at_call 36; refine HS.out.mono ?_; rintro e w9 ⟨rfl, hl9⟩; have HL9 := Lib.hid hl9; clear hl9))
  have hx9 : w9.heap[W.heap.size]? = some (.cells #[.int .i64 0] 34 (0, 0)) := (HL9.out.blk _ (lt_of_heap HC.out) (by have := HPB.out; simp; omega)).trans HC.out
  have hxa : (w9.setCell ⟨W.heap.size, 0, none⟩ (.int .i64 3)).heap[W.heap.size]? = some (.cells #[.int .i64 3] 34 (0, 0)) := heap_setCell_same w9 W.heap.size 0 _ _ _ hx9
  have hxb : ((w9.setCell ⟨W.heap.size, 0, none⟩ (.int .i64 3)).setCell ⟨W.heap.size, 0, none⟩ (.int .i64 x)).heap[W.heap.size]? = some (.cells #[.int .i64 x] 34 (0, 0)) := heap_setCell_same _ W.heap.size 0 _ _ _ hxa
  have hcb := Lib.cell_of_heap hxb 0
  refine leaves_cons (f := 32) (args := #[.pointer (some ⟨W.heap.size, 0, none⟩)]) (by simp) (by simp [go_sem]) ?_
  refine (line1_panicking ⟨W.heap.size, 0, none⟩ 0 x [] w9 ((Lib.cell_of_heap hx9 0).trans rfl) (Lib.frozen_of_heap hx9 0)).mono ?_
  rintro e u' w'' ⟨rfl, rfl, rfl⟩
  refine ⟨.int .i64 x, ?_, rfl, ?_⟩
  ·simp [results, Tryz.results12, go_sem, hcb]
  ·exact (HL0.out.trans HL9.out).trans2 (LoP.setC hx9 (.inr (Nat.le_refl _)) (HL0.out.trans HL9.out).size _) (LoP.setC hxa (.inr (Nat.le_refl _)) (by simpa using (HL0.out.trans HL9.out).size) _)
 | ok c' =>
  go_enter_defers Tryz.func12, Tryz.ntmps12
  go_wp2_with (first | (go_at_call 40; (with_reducible refine (cfg_grammar_ok _ _).mono ?_); rintro e w9 ⟨rfl, rfl⟩) | (go_at_call 36; refine HS.out.mono ?_; rintro e w9 ⟨rfl, hm9, r', i', hst9, hdry9, hex9⟩; obtain ⟨x0, xf, xb0, xh⟩ := hst9.exCell hex9; have HM9 := Lib.hid hm9; have HST9 := Lib.hid hst9; have HDR9 := Lib.hid hdry9; have HEX9 := Lib.hid hex9; clear hm9 hst9 hdry9 hex9))
  have hxa : (w9.setCell ⟨W.heap.size, 0, none⟩ (.int .i64 0)).heap[W.heap.size]? = some (.cells #[.int .i64 0] 34 (0, 0)) := heap_setCell_same w9 W.heap.size 0 _ _ _ xh
  have hcb := Lib.cell_of_heap hxa 0
  refine leaves_cons (f := 32) (args := #[.pointer (some ⟨W.heap.size, 0, none⟩)]) (by simp) (by simp [go_sem]) ?_
  refine (line1_idle ⟨W.heap.size, 0, none⟩ _).mono ?_
  rintro e u' w'' ⟨rfl, rfl, rfl⟩
  refine ⟨.int .i64 0, ?_, rfl, ?_, { r' with ex := r.ex }, i', HST9.out.dropEx HEX9.out _, fun hd => ?_, rfl⟩
  ·simp [results, Tryz.results12, go_sem, hcb]
  ·exact ((HL0.out.toM HSZ.out (by simp)).trans HM9.out).trans ((LoP.setC (X := [pb]) xh (.inr HSZ.out) (Nat.le_trans HSZ.out (Nat.le_trans HL0.out.size HM9.out.size)) _).toM (by simp))
  ·obtain ⟨d1, _, d3⟩ := HDR9.out hd
   exact ⟨d1, LoP.trans (HL0.out.trans d3) (LoP.setC xh (.inr (Nat.le_refl _)) (HL0.out.trans d3).size _)⟩
set_option maxHeartbeats 8000000 in
set_option maxRecDepth 100000 in
theorem line_policy {B pb sb xb yb : Nat} {r : Rws} {c : Cf} {A : Option Addr} {cw : Nat} {dry : Bool} {rest : List (List UInt8)} {i : Nat} {W : World} (h : LN B pb sb xb yb r c A cw ([112, 111, 108, 105, 99, 121] :: rest) dry i W) (hE : Env pb W) (hpl : c.pfx.length < 100000) :
  Calls Tryz.prog 12 #[.pointer (some ⟨pb, 0, none⟩)] W (RetL B pb sb xb yb r c A cw ([112, 111, 108, 105, 99, 121] :: rest) dry W (policyS dry c rest)) := by
 obtain ⟨w1, w2, w3, w4, w5, w6, w7, e1, e2, e3, e4, e5, e6, e7, hm, hc, hb⟩ := stm_made pb W
 obtain ⟨hls, hl0⟩ := h.begin hb
 obtain ⟨ab, ao, rfl, hne, q0, q1, q2, qf⟩ := h.facts hb
 have hcx : (w7.setCell ⟨pb, 23, none⟩ (.int .i64 1)).heap[W.heap.size]? = some (.cells #[.int .i64 0] 34 (0, 0)) := (Below.heap_setCell _ _ _ _ (by have := h.st.bl.1; have := h.st.sz; simp; omega)).trans hc
 have hst := h.st.withEx (Nat.le_refl _) hl0 hls.st hcx
 have hlk := (hm.kept (w' := w7.setCell ⟨pb, 23, none⟩ (.int .i64 1)) (Below.heap_setCell _ _ _ _ (by have := h.st.bl.1; have := h.st.sz; simp; omega))).hit key_str Tryz.underlying95 (keyS (P := Tryz.prog) Tryz.underlying9 (l := [112, 111, 108, 105, 99, 121]) (by decide)) true (v := (.func (.func 37) #[.pointer (some ⟨pb, 0, none⟩)] #[])) (by simp)
 simp only [if_true] at hlk
 obtain ⟨V, hV⟩ : ∃ V, V = policyS dry c rest := ⟨_, rfl⟩
 rw [← hV]
 have HE := Lib.hid hE
 have HPL := Lib.hid hpl
 have HL0 := Lib.hid hl0
 have HS : Hid (Calls Tryz.prog 37 #[.pointer (some ⟨pb, 0, none⟩)] (w7.setCell ⟨pb, 23, none⟩ (.int .i64 1)) (RetS B pb sb xb yb { r with ex := eRow W.heap.size 0 :: r.ex } c (some ⟨ab, ao, none⟩) cw ([112, 111, 108, 105, 99, 121] :: rest) dry (w7.setCell ⟨pb, 23, none⟩ (.int .i64 1)) V)) := Lib.hid (by rw [hV]; exact cfg_policy ⟨hls.ps, hst⟩)
 have HC := Lib.hid hcx
 have HSZ := Lib.hid h.st.sz
 have HPB : Hid (pb < W.heap.size) := Lib.hid (by have := h.st.bl.1; have := h.st.sz; omega)
 have hmf : ∀ (fn : Fn) (first cap : Array Value) (w : World), (Instr.makeFunc fn first cap).run Tryz.prog w = .ok (.func fn first cap) w := fun _ _ _ _ => rfl
 have hmm := @run_makeMap Tryz.prog
 clear hm hc hb hls hl0 hcx hst hV h hE hpl
 cases V with
 | error x =>
  go_enter_defers Tryz.func12, Tryz.ntmps12
  go_wp2_with (first | (go_at_call 40; (with_reducible refine (cfg_grammar_ok _ _).mono ?_); rintro e w9 ⟨rfl, rfl⟩) | (go_at_call 37; refine HS.out.mono ?_; rintro e w9 ⟨rfl, hl9⟩; have HL9 := Lib.hid hl9; clear hl9))
  have hx9 : w9.heap[W.heap.size]? = some (.cells #[.int .i64 0] 34 (0, 0)) := (HL9.out.blk _ (lt_of_heap HC.out) (by have := HPB.out; simp; omega)).trans HC.out
  have hxa : (w9.setCell ⟨W.heap.size, 0, none⟩ (.int .i64 3)).heap[W.heap.size]? = some (.cells #[.int .i64 3] 34 (0, 0)) := heap_setCell_same w9 W.heap.size 0 _ _ _ hx9
  have hxb : ((w9.setCell ⟨W.heap.size, 0, none⟩ (.int .i64 3)).setCell ⟨W.heap.size, 0, none⟩ (.int .i64 x)).heap[W.heap.size]? = some (.cells #[.int .i64 x] 34 (0, 0)) := heap_setCell_same _ W.heap.size 0 _ _ _ hxa
  have hcb := Lib.cell_of_heap hxb 0
  refine leaves_cons (f := 32) (args := #[.pointer (some ⟨W.heap.size, 0, none⟩)]) (by simp) (by simp [go_sem]) ?_
  refine (line1_panicking ⟨W.heap.size, 0, none⟩ 0 x [] w9 ((Lib.cell_of_heap hx9 0).trans rfl) (Lib.frozen_of_heap hx9 0)).mono ?_
  rintro e u' w'' ⟨rfl, rfl, rfl⟩
  refine ⟨.int .i64 x, ?_, rfl, ?_⟩
  ·simp [results, Tryz.results12, go_sem, hcb]
  ·exact (HL0.out.trans HL9.out).trans2 (LoP.setC hx9 (.inr (Nat.le_refl _)) (HL0.out.trans HL9.out).size _) (LoP.setC hxa (.inr (Nat.le_refl _)) (by simpa using (HL0.out.trans HL9.out).size) _)
 | ok c' =>
  go_enter_defers Tryz.func12, Tryz.ntmps12
  go_wp2_with (first | (go_at_call 40; (with_reducible refine (cfg_grammar_ok _ _).mono ?_); rintro e w9 ⟨rfl, rfl⟩) | (go_at_call 37; refine HS.out.mono ?_; rintro e w9 ⟨rfl, hm9, r', i', hst9, hdry9, hex9⟩; obtain ⟨x0, xf, xb0, xh⟩ := hst9.exCell hex9; have HM9 := Lib.hid hm9; have HST9 := Lib.hid hst9; have HDR9 := Lib.hid hdry9; have HEX9 := Lib.hid hex9; clear hm9 hst9 hdry9 hex9))
  have hxa : (w9.setCell ⟨W.heap.size, 0, none⟩ (.int .i64 0)).heap[W.heap.size]? = some (.cells #[.int .i64 0] 34 (0, 0)) := heap_setCell_same w9 W.heap.size 0 _ _ _ xh
  have hcb := Lib.cell_of_heap hxa 0
  refine leaves_cons (f := 32) (args := #[.pointer (some ⟨W.heap.size, 0, none⟩)]) (by simp) (by simp [go_sem]) ?_
  refine (line1_idle ⟨W.heap.size, 0, none⟩ _).mono ?_
  rintro e u' w'' ⟨rfl, rfl, rfl⟩
  refine ⟨.int .i64 0, ?_, rfl, ?_, { r' with ex := r.ex }, i', HST9.out.dropEx HEX9.out _, fun hd => ?_, rfl⟩
  ·simp [results, Tryz.results12, go_sem, hcb]
  ·exact ((HL0.out.toM HSZ.out (by simp)).trans HM9.out).trans ((LoP.setC (X := [pb]) xh (.inr HSZ.out) (Nat.le_trans HSZ.out (Nat.le_trans HL0.out.size HM9.out.size)) _).toM (by simp))
  ·obtain ⟨d1, _, d3⟩ := HDR9.out hd
   exact ⟨d1, LoP.trans (HL0.out.trans d3) (LoP.setC xh (.inr (Nat.le_refl _)) (HL0.out.trans d3).size _)⟩
set_option maxHeartbeats 8000000 in
set_option maxRecDepth 100000 in
theorem line_demand {B pb sb xb yb : Nat} {r : Rws} {c : Cf} {A : Option Addr} {cw : Nat} {dry : Bool} {rest : List (List UInt8)} {i : Nat} {W : World} (h : LN B pb sb xb yb r c A cw ([100, 101, 109, 97, 110, 100] :: rest) dry i W) (hE : Env pb W) (hpl : c.pfx.length < 100000) :
  Calls Tryz.prog 12 #[.pointer (some ⟨pb, 0, none⟩)] W (RetL B pb sb xb yb r c A cw ([100, 101, 109, 97, 110, 100] :: rest) dry W (demandS dry c rest)) := by
 obtain ⟨w1, w2, w3, w4, w5, w6, w7, e1, e2, e3, e4, e5, e6, e7, hm, hc, hb⟩ := stm_made pb W
 obtain ⟨hls, hl0⟩ := h.begin hb
 obtain ⟨ab, ao, rfl, hne, q0, q1, q2, qf⟩ := h.facts hb
 have hcx : (w7.setCell ⟨pb, 23, none⟩ (.int .i64 1)).heap[W.heap.size]? = some (.cells #[.int .i64 0] 34 (0, 0)) := (Below.heap_setCell _ _ _ _ (by have := h.st.bl.1; have := h.st.sz; simp; omega)).trans hc
 have hst := h.st.withEx (Nat.le_refl _) hl0 hls.st hcx
 have hlk := (hm.kept (w' := w7.setCell ⟨pb, 23, none⟩ (.int .i64 1)) (Below.heap_setCell _ _ _ _ (by have := h.st.bl.1; have := h.st.sz; simp; omega))).hit key_str Tryz.underlying95 (keyS (P := Tryz.prog) Tryz.underlying9 (l := [100, 101, 109, 97, 110, 100]) (by decide)) true (v := (.func (.func 38) #[.pointer (some ⟨pb, 0, none⟩)] #[])) (by simp)
 simp only [if_true] at hlk
 obtain ⟨V, hV⟩ : ∃ V, V = demandS dry c rest := ⟨_, rfl⟩
 rw [← hV]
 have HE := Lib.hid hE
 have HPL := Lib.hid hpl
 have HL0 := Lib.hid hl0
 have HS : Hid (Calls Tryz.prog 38 #[.pointer (some ⟨pb, 0, none⟩)] (w7.setCell ⟨pb, 23, none⟩ (.int .i64 1)) (RetS B pb sb xb yb { r with ex := eRow W.heap.size 0 :: r.ex } c (some ⟨ab, ao, none⟩) cw ([100, 101, 109, 97, 110, 100] :: rest) dry (w7.setCell ⟨pb, 23, none⟩ (.int .i64 1)) V)) := Lib.hid (by rw [hV]; exact cfg_demand ⟨hls.ps, hst⟩)
 have HC := Lib.hid hcx
 have HSZ := Lib.hid h.st.sz
 have HPB : Hid (pb < W.heap.size) := Lib.hid (by have := h.st.bl.1; have := h.st.sz; omega)
 have hmf : ∀ (fn : Fn) (first cap : Array Value) (w : World), (Instr.makeFunc fn first cap).run Tryz.prog w = .ok (.func fn first cap) w := fun _ _ _ _ => rfl
 have hmm := @run_makeMap Tryz.prog
 clear hm hc hb hls hl0 hcx hst hV h hE hpl
 cases V with
 | error x =>
  go_enter_defers Tryz.func12, Tryz.ntmps12
  go_wp2_with (first | (go_at_call 40; (with_reducible refine (cfg_grammar_ok _ _).mono ?_); rintro e w9 ⟨rfl, rfl⟩) | (go_at_call 38; refine HS.out.mono ?_; rintro e w9 ⟨rfl, hl9⟩; have HL9 := Lib.hid hl9; clear hl9))
  have hx9 : w9.heap[W.heap.size]? = some (.cells #[.int .i64 0] 34 (0, 0)) := (HL9.out.blk _ (lt_of_heap HC.out) (by have := HPB.out; simp; omega)).trans HC.out
  have hxa : (w9.setCell ⟨W.heap.size, 0, none⟩ (.int .i64 3)).heap[W.heap.size]? = some (.cells #[.int .i64 3] 34 (0, 0)) := heap_setCell_same w9 W.heap.size 0 _ _ _ hx9
  have hxb : ((w9.setCell ⟨W.heap.size, 0, none⟩ (.int .i64 3)).setCell ⟨W.heap.size, 0, none⟩ (.int .i64 x)).heap[W.heap.size]? = some (.cells #[.int .i64 x] 34 (0, 0)) := heap_setCell_same _ W.heap.size 0 _ _ _ hxa
  have hcb := Lib.cell_of_heap hxb 0
  refine leaves_cons (f := 32) (args := #[.pointer (some ⟨W.heap.size, 0, none⟩)]) (by simp) (by simp [go_sem]) ?_
  refine (line1_panicking ⟨W.heap.size, 0, none⟩ 0 x [] w9 ((Lib.cell_of_heap hx9 0).trans rfl) (Lib.frozen_of_heap hx9 0)).mono ?_
  rintro e u' w'' ⟨rfl, rfl, rfl⟩
  refine ⟨.int .i64 x, ?_, rfl, ?_⟩
  ·simp [results, Tryz.results12, go_sem, hcb]
  ·exact (HL0.out.trans HL9.out).trans2 (LoP.setC hx9 (.inr (Nat.le_refl _)) (HL0.out.trans HL9.out).size _) (LoP.setC hxa (.inr (Nat.le_refl _)) (by simpa using (HL0.out.trans HL9.out).size) _)
 | ok c' =>
  go_enter_defers Tryz.func12, Tryz.ntmps12
  go_wp2_with (first | (go_at_call 40; (with_reducible refine (cfg_grammar_ok _ _).mono ?_); rintro e w9 ⟨rfl, rfl⟩) | (go_at_call 38; refine HS.out.mono ?_; rintro e w9 ⟨rfl, hm9, r', i', hst9, hdry9, hex9⟩; obtain ⟨x0, xf, xb0, xh⟩ := hst9.exCell hex9; have HM9 := Lib.hid hm9; have HST9 := Lib.hid hst9; have HDR9 := Lib.hid hdry9; have HEX9 := Lib.hid hex9; clear hm9 hst9 hdry9 hex9))
  have hxa : (w9.setCell ⟨W.heap.size, 0, none⟩ (.int .i64 0)).heap[W.heap.size]? = some (.cells #[.int .i64 0] 34 (0, 0)) := heap_setCell_same w9 W.heap.size 0 _ _ _ xh
  have hcb := Lib.cell_of_heap hxa 0
  refine leaves_cons (f := 32) (args := #[.pointer (some ⟨W.heap.size, 0, none⟩)]) (by simp) (by simp [go_sem]) ?_
  refine (line1_idle ⟨W.heap.size, 0, none⟩ _).mono ?_
  rintro e u' w'' ⟨rfl, rfl, rfl⟩
  refine ⟨.int .i64 0, ?_, rfl, ?_, { r' with ex := r.ex }, i', HST9.out.dropEx HEX9.out _, fun hd => ?_, rfl⟩
  ·simp [results, Tryz.results12, go_sem, hcb]
  ·exact ((HL0.out.toM HSZ.out (by simp)).trans HM9.out).trans ((LoP.setC (X := [pb]) xh (.inr HSZ.out) (Nat.le_trans HSZ.out (Nat.le_trans HL0.out.size HM9.out.size)) _).toM (by simp))
  ·obtain ⟨d1, _, d3⟩ := HDR9.out hd
   exact ⟨d1, LoP.trans (HL0.out.trans d3) (LoP.setC xh (.inr (Nat.le_refl _)) (HL0.out.trans d3).size _)⟩
set_option maxHeartbeats 8000000 in
set_option maxRecDepth 100000 in
theorem line_timer {B pb sb xb yb : Nat} {r : Rws} {c : Cf} {A : Option Addr} {cw : Nat} {dry : Bool} {rest : List (List UInt8)} {i : Nat} {W : World} (h : LN B pb sb xb yb r c A cw ([116, 105, 109, 101, 114] :: rest) dry i W) (hE : Env pb W) (hpl : c.pfx.length < 100000) :
  Calls Tryz.prog 12 #[.pointer (some ⟨pb, 0, none⟩)] W (RetL B pb sb xb yb r c A cw ([116, 105, 109, 101, 114] :: rest) dry W (timerS dry c rest)) := by
 obtain ⟨w1, w2, w3, w4, w5, w6, w7, e1, e2, e3, e4, e5, e6, e7, hm, hc, hb⟩ := stm_made pb W
 obtain ⟨hls, hl0⟩ := h.begin hb
 obtain ⟨ab, ao, rfl, hne, q0, q1, q2, qf⟩ := h.facts hb
 have hcx : (w7.setCell ⟨pb, 23, none⟩ (.int .i64 1)).heap[W.heap.size]? = some (.cells #[.int .i64 0] 34 (0, 0)) := (Below.heap_setCell _ _ _ _ (by have := h.st.bl.1; have := h.st.sz; simp; omega)).trans hc
 have hst := h.st.withEx (Nat.le_refl _) hl0 hls.st hcx
 have hlk := (hm.kept (w' := w7.setCell ⟨pb, 23, none⟩ (.int .i64 1)) (Below.heap_setCell _ _ _ _ (by have := h.st.bl.1; have := h.st.sz; simp; omega))).hit key_str Tryz.underlying95 (keyS (P := Tryz.prog) Tryz.underlying9 (l := [116, 105, 109, 101, 114]) (by decide)) true (v := (.func (.func 39) #[.pointer (some ⟨pb, 0, none⟩)] #[])) (by simp)
 simp only [if_true] at hlk
 obtain ⟨V, hV⟩ : ∃ V, V = timerS dry c rest := ⟨_, rfl⟩
 rw [← hV]
 have HE := Lib.hid hE
 have HPL := Lib.hid hpl
 have HL0 := Lib.hid hl0
 have HS : Hid (Calls Tryz.prog 39 #[.pointer (some ⟨pb, 0, none⟩)] (w7.setCell ⟨pb, 23, none⟩ (.int .i64 1)) (RetS B pb sb xb yb { r with ex := eRow W.heap.size 0 :: r.ex } c (some ⟨ab, ao, none⟩) cw ([116, 105, 109, 101, 114] :: rest) dry (w7.setCell ⟨pb, 23, none⟩ (.int .i64 1)) V)) := Lib.hid (by rw [hV]; exact cfg_timer ⟨hls.ps, hst⟩)
 have HC := Lib.hid hcx
 have HSZ := Lib.hid h.st.sz
 have HPB : Hid (pb < W.heap.size) := Lib.hid (by have := h.st.bl.1; have := h.st.sz; omega)
 have hmf : ∀ (fn : Fn) (first cap : Array Value) (w : World), (Instr.makeFunc fn first cap).run Tryz.prog w = .ok (.func fn first cap) w := fun _ _ _ _ => rfl
 have hmm := @run_makeMap Tryz.prog
 clear hm hc hb hls hl0 hcx hst hV h hE hpl
 cases V with
 | error x =>
  go_enter_defers Tryz.func12, Tryz.ntmps12
  go_wp2_with (first | (go_at_call 40; (with_reducible refine (cfg_grammar_ok _ _).mono ?_); rintro e w9 ⟨rfl, rfl⟩) | (go_at_call 39; refine HS.out.mono ?_; rintro e w9 ⟨rfl, hl9⟩; have HL9 := Lib.hid hl9; clear hl9))
  have hx9 : w9.heap[W.heap.size]? = some (.cells #[.int .i64 0] 34 (0, 0)) := (HL9.out.blk _ (lt_of_heap HC.out) (by have := HPB.out; simp; omega)).trans HC.out
  have hxa : (w9.setCell ⟨W.heap.size, 0, none⟩ (.int .i64 3)).heap[W.heap.size]? = some (.cells #[.int .i64 3] 34 (0, 0)) := heap_setCell_same w9 W.heap.size 0 _ _ _ hx9
  have hxb : ((w9.setCell ⟨W.heap.size, 0, none⟩ (.int .i64 3)).setCell ⟨W.heap.size, 0, none⟩ (.int .i64 x)).heap[W.heap.size]? = some (.cells #[.int .i64 x] 34 (0, 0)) := heap_setCell_same _ W.heap.size 0 _ _ _ hxa
  have hcb := Lib.cell_of_heap hxb 0
  refine leaves_cons (f := 32) (args := #[.pointer (some ⟨W.heap.size, 0, none⟩)]) (by simp) (by simp [go_sem]) ?_
  refine (line1_panicking ⟨W.heap.size, 0, none⟩ 0 x [] w9 ((Lib.cell_of_heap hx9 0).trans rfl) (Lib.frozen_of_heap hx9 0)).mono ?_
  rintro e u' w'' ⟨rfl, rfl, rfl⟩
  refine ⟨.int .i64 x, ?_, rfl, ?_⟩
  ·simp [results, Tryz.results12, go_sem, hcb]
  ·exact (HL0.out.trans HL9.out).trans2 (LoP.setC hx9 (.inr (Nat.le_refl _)) (HL0.out.trans HL9.out).size _) (LoP.setC hxa (.inr (Nat.le_refl _)) (by simpa using (HL0.out.trans HL9.out).size) _)
 | ok c' =>
  go_enter_defers Tryz.func12, Tryz.ntmps12
  go_wp2_with (first | (go_at_call 40; (with_reducible refine (cfg_grammar_ok _ _).mono ?_); rintro e w9 ⟨rfl, rfl⟩) | (go_at_call 39; refine HS.out.mono ?_; rintro e w9 ⟨rfl, hm9, r', i', hst9, hdry9, hex9⟩; obtain ⟨x0, xf, xb0, xh⟩ := hst9.exCell hex9; have HM9 := Lib.hid hm9; have HST9 := Lib.hid hst9; have HDR9 := Lib.hid hdry9; have HEX9 := Lib.hid hex9; clear hm9 hst9 hdry9 hex9))
  have hxa : (w9.setCell ⟨W.heap.size, 0, none⟩ (.int .i64 0)).heap[W.heap.size]? = some (.cells #[.int .i64 0] 34 (0, 0)) := heap_setCell_same w9 W.heap.size 0 _ _ _ xh
  have hcb := Lib.cell_of_heap hxa 0
  refine leaves_cons (f := 32) (args := #[.pointer (some ⟨W.heap.size, 0, none⟩)]) (by simp) (by simp [go_sem]) ?_
  refine (line1_idle ⟨W.heap.size, 0, none⟩ _).mono ?_
  rintro e u' w'' ⟨rfl, rfl, rfl⟩
  refine ⟨.int .i64 0, ?_, rfl, ?_, { r' with ex := r.ex }, i', HST9.out.dropEx HEX9.out _, fun hd => ?_, rfl⟩
  ·simp [results, Tryz.results12, go_sem, hcb]
  ·exact ((HL0.out.toM HSZ.out (by simp)).trans HM9.out).trans ((LoP.setC (X := [pb]) xh (.inr HSZ.out) (Nat.le_trans HSZ.out (Nat.le_trans HL0.out.size HM9.out.size)) _).toM (by simp))
  ·obtain ⟨d1, _, d3⟩ := HDR9.out hd
   exact ⟨d1, LoP.trans (HL0.out.trans d3) (LoP.setC xh (.inr (Nat.le_refl _)) (HL0.out.trans d3).size _)⟩
set_option maxHeartbeats 8000000 in
set_option maxRecDepth 100000 in
theorem line_other {B pb sb xb yb : Nat} {r : Rws} {c : Cf} {A : Option Addr} {cw : Nat} {dry : Bool} {w : List UInt8} {rest : List (List UInt8)} {i : Nat} {W : World} (h : LN B pb sb xb yb r c A cw (w :: rest) dry i W) (hw : w ≠ kNode ∧ w ≠ kLink ∧ w ≠ kLet ∧ w ≠ kPrefix ∧ w ≠ kPolicy ∧ w ≠ kDemand ∧ w ≠ kTimer) :
  Calls Tryz.prog 12 #[.pointer (some ⟨pb, 0, none⟩)] W (RetL B pb sb xb yb r c A cw (w :: rest) dry W (.error 3)) := by
 obtain ⟨w1, w2, w3, w4, w5, w6, w7, e1, e2, e3, e4, e5, e6, e7, hm, hc, hb⟩ := stm_made pb W
 obtain ⟨hls, hl0⟩ := h.begin hb
 obtain ⟨ab, ao, rfl, hne, q0, q1, q2, qf⟩ := h.facts hb
 have hcx : (w7.setCell ⟨pb, 23, none⟩ (.int .i64 1)).heap[W.heap.size]? = some (.cells #[.int .i64 0] 34 (0, 0)) := (Below.heap_setCell _ _ _ _ (by have := h.st.bl.1; have := h.st.sz; simp; omega)).trans hc
 have hwl : w.length ≤ 10000 := (h.al.2 w (by simp)).2
 have hlk := (hm.kept (w' := w7.setCell ⟨pb, 23, none⟩ (.int .i64 1)) (Below.heap_setCell _ _ _ _ (by have := h.st.bl.1; have := h.st.sz; simp; omega))).miss key_str Tryz.underlying95 (zero_func _) (keyS (P := Tryz.prog) Tryz.underlying9 (l := w) (by omega)) true (by
  obtain ⟨n1, n2, n3, n4, n5, n6, n7⟩ := hw
  have hb : ∀ l : List UInt8, w ≠ l → (Value.string ⟨l.toArray⟩) ≠ Value.string ⟨w.toArray⟩ := fun l hl e => hl (by
   injection e with e
   have := congrArg (fun b : ByteArray => b.data.toList) e
   simpa using this.symm)
  intro x hx
  simp only [List.mem_cons, List.not_mem_nil, or_false] at hx
  rcases hx with rfl | rfl | rfl | rfl | rfl | rfl | rfl
  ·exact hb kNode n1
  ·exact hb kLink n2
  ·exact hb kLet n3
  ·exact hb kPrefix n4
  ·exact hb kPolicy n5
  ·exact hb kDemand n6
  ·exact hb kTimer n7)
 simp only [if_true] at hlk
 have HL0 := Lib.hid hl0
 have HC := Lib.hid hcx
 have HPB : Hid (pb < W.heap.size) := Lib.hid (by have := h.st.bl.1; have := h.st.sz; omega)
 have hmf : ∀ (fn : Fn) (first cap : Array Value) (w : World), (Instr.makeFunc fn first cap).run Tryz.prog w = .ok (.func fn first cap) w := fun _ _ _ _ => rfl
 have hmm := @run_makeMap Tryz.prog
 clear hm hc hb hls hl0 hcx h hw hwl
 go_enter_defers Tryz.func12, Tryz.ntmps12
 go_wp2_with (go_at_call 40; (with_reducible refine (cfg_grammar_no _ _).mono ?_); rintro e w9 ⟨rfl, hw9⟩)
 have hx9 : w9.heap[W.heap.size]? = some (.cells #[.int .i64 0] 34 (0, 0)) := by rw [← hw9]; exact HC.out
 have hl9 : LoN pb W w9 := by rw [← hw9]; exact HL0.out
 have hxa : (w9.setCell ⟨W.heap.size, 0, none⟩ (.int .i64 3)).heap[W.heap.size]? = some (.cells #[.int .i64 3] 34 (0, 0)) := heap_setCell_same w9 W.heap.size 0 _ _ _ hx9
 have hxb : ((w9.setCell ⟨W.heap.size, 0, none⟩ (.int .i64 3)).setCell ⟨W.heap.size, 0, none⟩ (.int .i64 3)).heap[W.heap.size]? = some (.cells #[.int .i64 3] 34 (0, 0)) := heap_setCell_same _ W.heap.size 0 _ _ _ hxa
 have hcb := Lib.cell_of_heap hxb 0
 refine leaves_cons (f := 32) (args := #[.pointer (some ⟨W.heap.size, 0, none⟩)]) (by simp) (by simp [go_sem]) ?_
 refine (line1_panicking ⟨W.heap.size, 0, none⟩ 0 3 [] w9 ((Lib.cell_of_heap hx9 0).trans rfl) (Lib.frozen_of_heap hx9 0)).mono ?_
 rintro e u' w'' ⟨rfl, rfl, rfl⟩
 refine ⟨.int .i64 3, ?_, rfl, ?_⟩
 ·simp [results, Tryz.results12, go_sem, hcb]
 ·exact hl9.trans2 (LoP.setC hx9 (.inr (Nat.le_refl _)) hl9.size _) (LoP.setC hxa (.inr (Nat.le_refl _)) (by simpa using hl9.size) _)
/-- What line does. -/
theorem cfg_line {B pb sb xb yb : Nat} {r : Rws} {c : Cf} {A : Option Addr} {cw : Nat} {all : List (List UInt8)} {dry : Bool} {i : Nat} {W : World} (h : LN B pb sb xb yb r c A cw all dry i W) (hne : all ≠ []) (hE : Env pb W) (hpl : c.pfx.length < 100000) :
  Calls Tryz.prog 12 #[.pointer (some ⟨pb, 0, none⟩)] W (RetL B pb sb xb yb r c A cw all dry W (lineS dry c all)) := by
 cases all with
 | nil => exact absurd rfl hne
 | cons w rest =>
  rw [lineS]
  by_cases h1 : w = kNode
  ·subst h1; rw [if_pos rfl]; exact line_node h hE hpl
  rw [if_neg h1]
  by_cases h2 : w = kLink
  ·subst h2; rw [if_pos rfl]; exact line_link h hE hpl
  rw [if_neg h2]
  by_cases h3 : w = kLet
  ·subst h3; rw [if_pos rfl]; exact line_let h hE hpl
  rw [if_neg h3]
  by_cases h4 : w = kPrefix
  ·subst h4; rw [if_pos rfl]; exact line_prefix h hE hpl
  rw [if_neg h4]
  by_cases h5 : w = kPolicy
  ·subst h5; rw [if_pos rfl]; exact line_policy h hE hpl
  rw [if_neg h5]
  by_cases h6 : w = kDemand
  ·subst h6; rw [if_pos rfl]; exact line_demand h hE hpl
  rw [if_neg h6]
  by_cases h7 : w = kTimer
  ·subst h7; rw [if_pos rfl]; exact line_timer h hE hpl
  rw [if_neg h7]
  exact line_other h ⟨h1, h2, h3, h4, h5, h6, h7⟩
end Go.Proofs.YtfimacgmciogmaaGreatDoor
