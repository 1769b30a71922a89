/-
  topology.Parse: what it returns for every text.
-/
import Derived.Test.YtfbloolloifndaaDoorTRd
import Derived.Test.YtfbloolloifndaaDoorRetTP
import Derived.Test.YtfbloolloifndaaDoorLines
namespace Go.Proofs.YtfbloolloifndaaDoor
set_option linter.unusedSimpArgs false
set_option linter.unusedVariables false
open Go.RowKit Go.Shelf Go.Sort
attribute [local go_sem] Oper.semAt_some

theorem readT_len {t u : Topo} {l : List UInt8} (h : readT t l = some u) : u.ls.length ≤ t.ls.length + 1 := by
  unfold readT at h
  cases hw : fieldsS l with
  | nil => rw [hw] at h; cases h
  | cons w ws =>
    rw [hw, readW] at h
    split at h
    · split at h
      · injection h with h; subst h; exact Nat.le_succ _
      · cases h
    · split at h
      · split at h
        · split at h
          · injection h with h; subst h; exact Nat.le_succ _
          · cases h
        · cases h
      · split at h
        · split at h
          · split at h
            · cases h
            · injection h with h; subst h; simp
          · cases h
        · cases h
theorem foldT_snoc {l : List (List UInt8)} {x : List UInt8} {t u : Topo} (h : foldT l t = some u) : foldT (l ++ [x]) t = readT u x := by
  rw [foldT_app, h]
  simp only [foldT]
  cases readT u x <;> rfl
theorem foldT_bad {ws : List (List UInt8)} {k : Nat} {x : List UInt8} {t u : Topo} (hx : ws[k]? = some x) (h : foldT (ws.take k) t = some u) (hr : readT u x = none) : foldT ws t = none := by
  obtain ⟨h1, h2⟩ := List.getElem?_eq_some_iff.1 hx
  rw [← List.take_append_drop k ws, foldT_app, h, List.drop_eq_getElem_cons h1, h2]
  simp only [foldT, hr]
theorem splitK_memA {c : UInt8} {kp x : List UInt8} : ∀ {s : List UInt8}, x ∈ splitK c kp s → x.length ≤ s.length + kp.length := by
  suffices H : ∀ (n : Nat) (s : List UInt8), s.length ≤ n → x ∈ splitK c kp s → x.length ≤ s.length + kp.length from fun {s} h => H s.length s (Nat.le_refl _) h
  intro n
  induction n with
  | zero =>
    intro s hs h
    obtain rfl : s = [] := List.eq_nil_of_length_eq_zero (by omega)
    simp [splitK] at h
    subst h; simp
  | succ n ih =>
    intro s hs h
    by_cases hm : c ∈ s
    · obtain ⟨y, z, rfl, hy⟩ := indexByte_some hm
      rw [splitK_hit hy] at h
      rcases List.mem_cons.1 h with rfl | h
      · simp only [List.length_append, List.length_cons]; omega
      · have := ih z (by simp at hs; omega) h
        simp only [List.length_append, List.length_cons]; omega
    · rw [splitK_miss hm] at h
      simp at h
      subst h; omega
theorem linesK_mem {s x : List UInt8} (h : x ∈ linesK s) : x.length ≤ s.length + 1 := splitK_memA (kp := [10]) (List.mem_filter.1 h).1

/-- Where parsing stands. -/
def PT (w : World) (B : Nat) (ws : List (List UInt8)) (k : Nat) (x : Topo × Value × Value) (W : World) : Prop :=
  (foldT (ws.take k) zeroT = some x.1 ∧ x.1.ls.length ≤ k) ∧ RT (B + 2) (B + 4) x.1 x.2.1 x.2.2 W ∧ W.heap[B]? = some (.cells #[.int .i64 0, .slice none 0 0, .slice none 0 0] 25 (0, 0)) ∧ Boxed W (B + 1) 29 (.int .i64 0) ∧ Below B w W ∧ B + 4 ≤ W.heap.size
def PX (w : World) (B : Nat) (ws : List (List UInt8)) (c : Code) (W : World) : Prop :=
  (c = .ret ∧ foldT ws zeroT = none) ∧ W.heap[B]? = some (.cells #[.int .i64 0, .slice none 0 0, .slice none 0 0] 25 (0, 0)) ∧ Boxed W (B + 1) 29 (.int .i64 3) ∧ Below B w W
theorem firmPT {w : World} {n B : Nat} {ws : List (List UInt8)} (h1 : B ≤ w.heap.size) (h2 : B ≤ n) : Firm n (B + 3) (fun k W => ∃ x, PT w B ws k x W) :=
  Firm.ex (J := fun (s : Nat × (Topo × Value × Value)) W => PT w B ws s.1 s.2 W) (Firm.and (Firm.pure _) (Firm.and (firmRT (by omega) (by omega)) (Firm.and (Firm.blk (f := fun _ => #[.int .i64 0, .slice none 0 0, .slice none 0 0]) (by omega)) (Firm.and (Firm.blk (f := fun _ => #[.int .i64 0]) (by omega)) (Firm.and (Firm.below h1 h2 (by omega)) Firm.size)))))
theorem firmPX {w : World} {n B : Nat} {ws : List (List UInt8)} (h1 : B ≤ w.heap.size) (h2 : B ≤ n) (c : Code) : Firm n (B + 3) (fun (_ : Nat) W => PX w B ws c W) :=
  Firm.and (Firm.pure _) (Firm.and (Firm.blk (f := fun _ => #[.int .i64 0, .slice none 0 0, .slice none 0 0]) (by omega)) (Firm.and (Firm.blk (f := fun _ => #[.int .i64 3]) (by omega)) (Firm.below h1 h2 (by omega))))

theorem four_new (w : World) (a b c d : Obj) :
    ((((w.alloc a).alloc b).alloc c).alloc d).heap[w.heap.size]? = some a ∧ ((((w.alloc a).alloc b).alloc c).alloc d).heap[w.heap.size + 1]? = some b ∧ ((((w.alloc a).alloc b).alloc c).alloc d).heap[w.heap.size + 2]? = some c ∧
    ((((w.alloc a).alloc b).alloc c).alloc d).heap[w.heap.size + 3]? = some d ∧ ((((w.alloc a).alloc b).alloc c).alloc d).heap.size = w.heap.size + 4 ∧ Below w.heap.size w ((((w.alloc a).alloc b).alloc c).alloc d) := by
  have s1 : (w.alloc a).heap.size = w.heap.size + 1 := by simp
  have s2 : ((w.alloc a).alloc b).heap.size = w.heap.size + 2 := by simp
  have s3 : (((w.alloc a).alloc b).alloc c).heap.size = w.heap.size + 3 := by simp
  have h0 := heap_alloc_new w a
  have h1 := heap_alloc_new (w.alloc a) b
  have h2 := heap_alloc_new ((w.alloc a).alloc b) c
  have h3 := heap_alloc_new (((w.alloc a).alloc b).alloc c) d
  rw [s1] at h1
  rw [s2] at h2
  rw [s3] at h3
  refine ⟨?_, ?_, ?_, h3, by simp, (((below_box w a).alloc (by simp) b).alloc (by simp; omega) c).alloc (by simp; omega) d⟩
  · rw [Below.heap_alloc _ _ _ (by omega), Below.heap_alloc _ _ _ (by omega), Below.heap_alloc _ _ _ (by omega)]; exact h0
  · rw [Below.heap_alloc _ _ _ (by omega), Below.heap_alloc _ _ _ (by omega)]; exact h1
  · rw [Below.heap_alloc _ _ _ (by omega)]; exact h2
/-- The world behind the stores of the results. -/
def Put4 (B : Nat) (W : World) (x y z e : Value) : World := (((W.setCell ⟨B, 0, none⟩ x).setCell ⟨B, 1, none⟩ y).setCell ⟨B, 2, none⟩ z).setCell ⟨B + 1, 0, none⟩ e
theorem box_oth {W : World} {b g j : Nat} {E : TypeId} {v : Value} (h : Boxed W b E v) (hne : b ≠ g) (u : Value) : Boxed (W.setCell ⟨g, j, none⟩ u) b E v := (Below.heap_setCell W ⟨g, j, none⟩ u b (by simpa using hne)).trans h
theorem put4 {B base : Nat} {W : World} {a b c x y z e v : Value} {T E : TypeId} (h0 : W.heap[B]? = some (.cells #[a, b, c] T (0, 0))) (h1 : Boxed W (B + 1) E v) (hs : base ≤ W.heap.size) :
    (Put4 B W x y z e).heap[B]? = some (.cells #[x, y, z] T (0, 0)) ∧ Boxed (Put4 B W x y z e) (B + 1) E e ∧ LoP base [B, B + 1] W (Put4 B W x y z e) := by
  have k0 := box_set3 (x := x) (y := y) (z := z) h0
  have n1 : Boxed (((W.setCell ⟨B, 0, none⟩ x).setCell ⟨B, 1, none⟩ y).setCell ⟨B, 2, none⟩ z) (B + 1) E v := box_oth (box_oth (box_oth h1 (by omega) _) (by omega) _) (by omega) _
  have k1 : (Put4 B W x y z e).heap[B]? = (((W.setCell ⟨B, 0, none⟩ x).setCell ⟨B, 1, none⟩ y).setCell ⟨B, 2, none⟩ z).heap[B]? := Below.heap_setCell (((W.setCell ⟨B, 0, none⟩ x).setCell ⟨B, 1, none⟩ y).setCell ⟨B, 2, none⟩ z) ⟨B + 1, 0, none⟩ e B (by simp)
  refine ⟨k1.trans k0, n1.set _, ?_⟩
  have l1 : LoP base [B, B + 1] W (W.setCell ⟨B, 0, none⟩ x) := LoP.setC h0 (.inl (by simp)) hs x
  have l2 : LoP base [B, B + 1] (W.setCell ⟨B, 0, none⟩ x) ((W.setCell ⟨B, 0, none⟩ x).setCell ⟨B, 1, none⟩ y) := LoP.setC (heap_setCell_same _ _ _ _ _ _ h0) (.inl (by simp)) (by simpa using hs) y
  have l3 : LoP base [B, B + 1] ((W.setCell ⟨B, 0, none⟩ x).setCell ⟨B, 1, none⟩ y) (((W.setCell ⟨B, 0, none⟩ x).setCell ⟨B, 1, none⟩ y).setCell ⟨B, 2, none⟩ z) := LoP.setC (heap_setCell_same _ _ _ _ _ _ (heap_setCell_same _ _ _ _ _ _ h0)) (.inl (by simp)) (by simpa using hs) z
  exact ((l1.trans l2).trans l3).trans (LoP.setC n1 (.inl (by simp)) (by simpa using hs) e)
theorem RT.put4 {B : Nat} {t : Topo} {ov ls : Value} {W : World} (h : RT (B + 2) (B + 4) t ov ls W) (x y z e : Value) : RT (B + 2) (B + 4) t ov ls (Put4 B W x y z e) :=
  (((h.setR (by omega) 0 x).setR (by omega) 1 y).setR (by omega) 2 z).setR (by omega) 0 e

/-- What stands behind the loop. -/
def PD (w : World) (B D : Nat) (t : Topo) (ov ls : Value) (W : World) : Prop :=
  RT (B + 2) (B + 4) t ov ls W ∧ W.heap[B]? = some (.cells #[.int .i64 0, .slice none 0 0, .slice none 0 0] 25 (0, 0)) ∧ Boxed W (B + 1) 29 (.int .i64 0) ∧ Below B w W ∧ W.heap[D]? = some (.deferred (some []))
theorem PD.up {w W W' : World} {B D : Nat} {t : Topo} {ov ls : Value} (h : PD w B D t ov ls W) (hB : B ≤ w.heap.size) (hb : Below W.heap.size W W') : PD w B D t ov ls W' :=
  ⟨h.1.up hb, (hb.block _ (lt_of_heap h.2.1)).trans h.2.1, (hb.block _ (lt_of_heap h.2.2.1)).trans h.2.2.1, below_next h.2.2.2.1 hb hB, (hb.block _ (lt_of_heap h.2.2.2.2)).trans h.2.2.2.2⟩
/-- The end: the results are stored, the deferred calls are taken. -/
theorem PD.fin {w W : World} {B D : Nat} {t : Topo} {ov ls : Value} (h : PD w B D t ov ls W) (hB : B ≤ w.heap.size) (hD : B + 4 ≤ D) (x y z e : Value) :
    (Put4 B W x y z e).heap[D]? = some (.deferred (some [])) ∧ ((Put4 B W x y z e).putObj D (.deferred none)).heap[B]? = some (.cells #[x, y, z] 25 (0, 0)) ∧ Boxed ((Put4 B W x y z e).putObj D (.deferred none)) (B + 1) 29 e ∧
    Below B w ((Put4 B W x y z e).putObj D (.deferred none)) ∧ RT (B + 2) (B + 4) t ov ls ((Put4 B W x y z e).putObj D (.deferred none)) := by
  obtain ⟨hR, h0, h1, hb, hK⟩ := h
  obtain ⟨p0, p1, p2⟩ := put4 (base := B + 4) (x := x) (y := y) (z := z) (e := e) h0 h1 hR.sz
  have k1 := p2.oth D _ hK rfl
  refine ⟨k1, (World.putObj_heap_other (by omega)).trans p0, (World.putObj_heap_other (by omega)).trans p1, (p2.below hb (by omega) (by simp)).trans ?_, (hR.put4 x y z e).put k1 rfl _⟩
  exact ⟨rfl, rfl, rfl, by simp, fun k hk => World.putObj_heap_other (by omega)⟩

set_option maxRecDepth 100000 in
set_option maxHeartbeats 8000000 in
theorem topology_ParseT (s : List UInt8) (hs : s.length ≤ 50000) (w : World) (hE : Errs w) (hF : FT w.heap.size w) (ht : Tab w.heap.size w) :
    Calls Tryd.prog 8 #[.string ⟨s.toArray⟩] w (RetTP w (topoP s)) := by
  have HF := Lib.hid hF
  have HTb := Lib.hid ht
  have HET := Lib.hid (ET.of hE)
  clear hE hF ht
  obtain ⟨V, hV⟩ : ∃ V, V = topoP s := ⟨_, rfl⟩
  rw [← hV]
  have HV := Lib.hid hV
  clear hV
  obtain ⟨ws, hws⟩ : ∃ ws, ws = linesK s := ⟨_, rfl⟩
  have hwl : ws.length ≤ 50001 := by rw [hws]; have := linesK_len s; omega
  have HWX : Hid (∀ x ∈ ws, x.length ≤ 100000) := Lib.hid (by rw [hws]; intro x hx; have := linesK_mem hx; omega)
  have HWS := Lib.hid hws
  clear hws
  refine (callsIn_wide (n := 3)).1 ?_
  refine callsIn_of_wp_marks Tryd.func8 rfl trivial ?_ rfl
  simp only [Tryd.ntmps8, List.size_toArray, List.length_cons, List.length_nil, Nat.reduceAdd, Nat.reduceSub, Array.replicate_succ, Array.replicate_zero, List.push_toArray, List.append_toArray, List.nil_append, List.cons_append]
  gi_wp2_with (refine ⟨trivial, ?_⟩; gi_at_call 18; refine (Lines_in _ _ _).mono ?_; rintro e w1 ⟨rfl, rfl⟩)
  obtain ⟨B, hBe⟩ : ∃ B, B = w.heap.size := ⟨_, rfl⟩
  obtain ⟨g0, g1, g2, g3, gs, gb⟩ := four_new w (.cells #[.int .i64 0, .slice none 0 0, .slice none 0 0] 25) (.cells #[.int .i64 0] 29) (.cells #[.int .i64 0, .slice none 0 0, .slice none 0 0] 25) (.cells #[.string ⟨s.toArray⟩] 9)
  generalize (((w.alloc (.cells #[.int .i64 0, .slice none 0 0, .slice none 0 0] 25)).alloc (.cells #[.int .i64 0] 29)).alloc (.cells #[.int .i64 0, .slice none 0 0, .slice none 0 0] 25)).alloc (.cells #[.string ⟨s.toArray⟩] 9) = W0 at g0 g1 g2 g3 gs gb ⊢
  simp only [Nat.add_assoc, Nat.reduceAdd]
  rw [← hBe] at g0 g1 g2 g3 gs gb ⊢
  have B3 : Boxed W0 (B + 3) 9 (.string ⟨s.toArray⟩) := g3
  have HB : Hid (Below B w W0) := Lib.hid gb
  have hB1 : B ≤ w.heap.size := by omega
  have hB2 : w.heap.size ≤ B := by omega
  have HBE := Lib.hid hBe
  have hs4 : B + 4 ≤ W0.heap.size := by omega
  have hs5 : W0.heap.size ≤ B + 4 := by omega
  have HFB : Hid (FT B w) := Lib.hid (by have h := HF.out; rw [← hBe] at h; exact h)
  have HP0 : Hid (PT w B ws 0 (zeroT, .slice none 0 0, .slice none 0 0) W0) := Lib.hid ⟨⟨rfl, Nat.zero_le _⟩, ⟨g2, World.ownsRow_nil _ _ _ _, World.ownsRow_nil _ _ _ _, (by intro g h; simp [Value.ownBlock] at h), by omega, hs4⟩, g0, g1, gb, hs4⟩
  have HTB : Hid (Tab B w) := Lib.hid (by have h := HTb.out; rw [← hBe] at h; exact h)
  have HETB : Hid (ET B w) := Lib.hid (by have h := HET.out; rw [← hBe] at h; exact h)
  have hslen : s.length ≤ 1000000 := by omega
  clear hBe gs gb g0 g1 g2 g3
  refine rangeC rfl (by omega) (gf := 36) (lb := #[.pointer (some ⟨B + 3, 0, none⟩)]) rfl trivial (enters_of Tryd.func36 (by kernel_rfl) rfl)
    (Bs := B + 3) (Kp := fun W W' => W'.heap[B + 3]? = W.heap[B + 3]?) (ps := ws) B3.lt
    (by rw [HWS.out]; exact lines1_in 2 (by omega) s hslen _ _ B3)
    (fun h g => g.trans h) (fun W l o' hl _ => World.putObj_heap_other (by omega)) rfl
    (fun k W => ∃ x, PT w B ws k x W)
    (fun c _ W => PX w B ws c W)
    (firmPT (by omega) (by omega))
    (fun c => firmPX (by omega) (by omega) c)
    ⟨_, HP0.out⟩
    (fun x => { tmps := #[.string ⟨s.toArray⟩, undef, .pointer (some ⟨B, 0, none⟩), .pointer (some ⟨B + 1, 0, none⟩), .pointer (some ⟨B + 2, 0, none⟩), .string ⟨x.toArray⟩, .string ⟨s.toArray⟩, .func (.func 36) #[] #[.pointer (some ⟨B + 3, 0, none⟩)], .string ⟨x.toArray⟩, undef, undef, undef, undef, undef, undef, undef, undef, undef, undef, undef, undef, undef, undef, undef], defers := [] }) ?assign ?body ?done ?stop
  case assign =>
    intro l x W K hK
    gi_wp2
    exact hK
  case body =>
    rintro l k x W ⟨⟨t, ov, ls⟩, ⟨hf, hlen⟩, hR, h0, h1, hB, hsz⟩ hx
    simp only at hf hlen hR
    have hkl : k ≤ 50001 := by have := (List.getElem?_eq_some_iff.1 hx).1; omega
    have hll : t.ls.length ≤ 100000 := by omega
    have HX := Lib.hid hx
    have HFO := Lib.hid hf
    have HL := Lib.hid hlen
    have HR := Lib.hid hR
    have HBW := Lib.hid hB
    have H0 := Lib.hid h0
    have H1 := Lib.hid h1
    have hxl := HWX.out x (List.mem_of_getElem? hx)
    have HC := Lib.hid (topology_read (n0 := B) x hxl W hR (by omega) (HFB.out.up fun q hq => hB.block q hq) (HETB.out.up fun q hq => hB.block q hq) hll)
    clear hf hlen hR h0 h1 hB hx
    cases hr : readT t x with
    | none =>
      have HC2 : Hid (Calls Tryd.prog 19 #[.pointer (some ⟨B + 2, 0, none⟩), .string ⟨x.toArray⟩] W fun e w' => e = .returned (.bool false) ∧ LoP (B + 4) [B + 2] W w') := Lib.hid (by
        rw [hr] at HC
        exact HC.out.mono fun e w' h => ⟨h.1, h.2.2⟩)
      have HBAD : Hid (foldT ws zeroT = none) := Lib.hid (foldT_bad HX.out HFO.out hr)
      clear hr HC
      gi_wp2_with (refine ⟨trivial, ?_⟩; gi_at_call 19; refine (CallsIn.inRound l (callsIn_wide.2 HC2.out)).mono ?_; rintro e w1 ⟨rfl, hLo⟩; have HLO := Lib.hid hLo; have H01 := Lib.hid ((hLo.blk B (by omega) (by simp)).trans H0.out); have H11 := Lib.hid (hLo.box H1.out (by omega) (by simp)); have z0 := Lib.cell_of_heap H01.out (j := 0); have z1 := Lib.cell_of_heap H01.out (j := 1); have z2 := Lib.cell_of_heap H01.out (j := 2); have zf0 : w1.frozen? ⟨B, 0, none⟩ = false := Lib.frozen_of_heap H01.out _; have zf1 : w1.frozen? ⟨B, 1, none⟩ = false := Lib.frozen_of_heap H01.out _; have zf2 : w1.frozen? ⟨B, 2, none⟩ = false := Lib.frozen_of_heap H01.out _; have y0 := H11.out.cell; have yf := H11.out.frozen; clear hLo)
      obtain ⟨p0, p1, p2⟩ := put4 (base := B + 4) (x := .int .i64 0) (y := .slice none 0 0) (z := .slice none 0 0) (e := .int .i64 3) H01.out H11.out (Nat.le_trans hsz HLO.out.size)
      have lo := (HLO.out.mono (Y := [B + 2, B, B + 1]) (by simp)).trans (p2.mono (by simp))
      exact ⟨lo.keeps, ⟨rfl, HBAD.out⟩, p0, p1, lo.below HBW.out (by omega) (by simp)⟩
    | some u =>
      have HC2 : Hid (Calls Tryd.prog 19 #[.pointer (some ⟨B + 2, 0, none⟩), .string ⟨x.toArray⟩] W fun e w' => e = .returned (.bool true) ∧ (∃ ov' ls', RT (B + 2) (B + 4) u ov' ls' w') ∧ LoP (B + 4) [B + 2] W w') := Lib.hid (by
        rw [hr] at HC
        refine HC.out.mono fun e w' h => ⟨h.1, ?_, h.2.2⟩
        obtain ⟨_, ⟨t', ov', ls', h1, h2⟩, _⟩ := h
        obtain rfl := h1 u rfl
        exact ⟨ov', ls', h2⟩)
      have HF1 : Hid (foldT (ws.take (k + 1)) zeroT = some u ∧ u.ls.length ≤ k + 1) := Lib.hid (by
        obtain ⟨h1, h2⟩ := List.getElem?_eq_some_iff.1 HX.out
        refine ⟨?_, by have := readT_len hr; have := HL.out; omega⟩
        rw [List.take_succ_eq_append_getElem h1, h2, foldT_snoc HFO.out, hr])
      clear hr HC
      gi_wp2_with (refine ⟨trivial, ?_⟩; gi_at_call 19; refine (CallsIn.inRound l (callsIn_wide.2 HC2.out)).mono ?_; rintro e w1 ⟨rfl, ⟨ov', ls', hR'⟩, hLo⟩; have HLO := Lib.hid hLo; have HR1 := Lib.hid hR'; clear hLo hR')
      have lo := HLO.out
      exact ⟨lo.keeps, lo.blk (B + 3) (by omega) (by simp), ⟨u, ov', ls'⟩, HF1.out, HR1.out, (lo.blk B (by omega) (by simp)).trans H0.out, lo.box H1.out (by omega) (by simp), lo.below HBW.out (by omega) (by simp), Nat.le_trans hsz lo.size⟩
  case done =>
    rintro D W hD ⟨⟨t, ov, ls⟩, ⟨hf, hlen⟩, hR, h0, h1, hB, hsz⟩ hK
    rw [List.take_length] at hf
    simp only at hf hlen hR
    simp only [Exit.inBlock, Exit.then]
    rename_i Kd hKd
    refine hKd _ _ (wpIn_wide.2 ?_)
    clear hKd Kd
    obtain ⟨A1, A2, c1, c2, rfl, rfl, hTA⟩ := hR.tat
    have hDD : B + 4 ≤ D := by omega
    have hll : t.ls.length ≤ 100000 := by omega
    have HPD : Hid (PD w B D t _ _ W) := Lib.hid ⟨hR, h0, h1, hB, hK⟩
    have HTA := Lib.hid hTA
    have HFO := Lib.hid hf
    have HTW : Hid (Tab W.heap.size W) := Lib.hid (tab_up HTb.out (HBE.out ▸ hB) (HBE.out ▸ hB).size)
    clear hR h0 h1 hB hK hTA hf hD hlen
    obtain ⟨b0, b1, b2, bf⟩ := HPD.out.1.cells
    have HVA : Hid (∀ W, TAt W A1 A2 t → Calls Tryd.prog 15 #[.agg #[.int .i64 t.n, .slice A1 t.ov.length c1, .slice A2 t.ls.length c2]] W fun e w' => e = .returned (.bool (valid t)) ∧ Below W.heap.size W w') := Lib.hid fun W h => topology_Valid t A1 A2 c1 c2 W h.ls
    have HTX : Hid (∀ W, TAt W A1 A2 t → Tab W.heap.size W → Calls Tryd.prog 7 #[.agg #[.int .i64 t.n, .slice A1 t.ov.length c1, .slice A2 t.ls.length c2]] W fun e w' => e = .returned (.string ⟨(textV t).toArray⟩) ∧ Below W.heap.size W w') := Lib.hid fun W h g => topology_Text t A1 A2 c1 c2 W h g
    obtain ⟨T, hT⟩ : ∃ T, T = textV t := ⟨_, rfl⟩
    rw [← hT] at HTX
    have HTT := Lib.hid hT
    clear hT
    cases hv : valid t with
    | false =>
      have HVV : Hid (V = (zeroT, 3)) := Lib.hid (by rw [HV.out]; unfold topoP; rw [← HWS.out, HFO.out]; simp [hv])
      rw [hv] at HVA
      clear hv
      go_wp2_with (go_at_call 15; (with_reducible refine (HVA.out _ HTA.out).mono ?_); rintro e w2 ⟨rfl, hb⟩; replace HPD := Lib.hid (HPD.out.up hB1 hb); clear hb b0 b1 b2 bf; have z0 := Lib.cell_of_heap HPD.out.2.1 (j := 0); have z1 := Lib.cell_of_heap HPD.out.2.1 (j := 1); have z2 := Lib.cell_of_heap HPD.out.2.1 (j := 2); have zf0 : w2.frozen? ⟨B, 0, none⟩ = false := Lib.frozen_of_heap HPD.out.2.1 _; have zf1 : w2.frozen? ⟨B, 1, none⟩ = false := Lib.frozen_of_heap HPD.out.2.1 _; have zf2 : w2.frozen? ⟨B, 2, none⟩ = false := Lib.frozen_of_heap HPD.out.2.1 _; have y0 := HPD.out.2.2.1.cell; have yf := HPD.out.2.2.1.frozen)
      obtain ⟨k1, q0, q1, hbb, _⟩ := HPD.out.fin hB1 hDD (.int .i64 0) (.slice none 0 0) (.slice none 0 0) (.int .i64 3)
      refine ⟨by simp, .inl ⟨_, _, rfl, run_takeDeferred k1, ?_⟩⟩
      have e0 := Lib.cell_of_heap q0 (j := 0)
      have e1 := Lib.cell_of_heap q0 (j := 1)
      have e2 := Lib.cell_of_heap q0 (j := 2)
      have e3 := q1.cell
      unfold Put4 at e0 e1 e2 e3
      exact ⟨.tuple #[.agg #[.int .i64 0, .slice none 0 0, .slice none 0 0], .int .i64 3], by simp [results, Tryd.results8, go_sem, e0, e1, e2, e3], by rw [HVV.out]; exact retTP_zero (HBE.out ▸ hbb)⟩
    | true =>
      rw [hv] at HVA
      have HVT := Lib.hid hv
      clear hv
      by_cases hTs : T = s
      · have HVV : Hid (V = (t, 0)) := Lib.hid (by
          have e : textOf t = s := by rw [← hTs, HTT.out]; simp [textV, HVT.out]
          rw [HV.out]; unfold topoP; rw [← HWS.out, HFO.out]; simp [HVT.out, e])
        subst hTs
        go_wp2_with (first | (go_at_call 15; (with_reducible refine (HVA.out _ HTA.out).mono ?_); rintro e w2 ⟨rfl, hb⟩; replace HTA := Lib.hid (HTA.out.below hb); replace HTW := Lib.hid (tab_up HTW.out hb hb.size); replace HPD := Lib.hid (HPD.out.up hB1 hb); clear hb b0 b1 b2 bf; obtain ⟨b0, b1, b2, bf⟩ := HPD.out.1.cells) | (go_at_call 7; (with_reducible refine (HTX.out _ HTA.out HTW.out).mono ?_); rintro e w3 ⟨rfl, hb⟩; replace HPD := Lib.hid (HPD.out.up hB1 hb); clear hb b0 b1 b2 bf; obtain ⟨b0, b1, b2, bf⟩ := HPD.out.1.cells; have z0 := Lib.cell_of_heap HPD.out.2.1 (j := 0); have z1 := Lib.cell_of_heap HPD.out.2.1 (j := 1); have z2 := Lib.cell_of_heap HPD.out.2.1 (j := 2); have zf0 : w3.frozen? ⟨B, 0, none⟩ = false := Lib.frozen_of_heap HPD.out.2.1 _; have zf1 : w3.frozen? ⟨B, 1, none⟩ = false := Lib.frozen_of_heap HPD.out.2.1 _; have zf2 : w3.frozen? ⟨B, 2, none⟩ = false := Lib.frozen_of_heap HPD.out.2.1 _; have y0 := HPD.out.2.2.1.cell; have yf := HPD.out.2.2.1.frozen))
        obtain ⟨k1, q0, q1, hbb, hRR⟩ := HPD.out.fin hB1 hDD (.int .i64 t.n) (.slice A1 t.ov.length c1) (.slice A2 t.ls.length c2) (.int .i64 0)
        refine ⟨by simp, .inl ⟨_, _, rfl, run_takeDeferred k1, ?_⟩⟩
        have e0 := Lib.cell_of_heap q0 (j := 0)
        have e1 := Lib.cell_of_heap q0 (j := 1)
        have e2 := Lib.cell_of_heap q0 (j := 2)
        have e3 := q1.cell
        have hTT := hRR.tat2
        unfold Put4 at e0 e1 e2 e3
        exact ⟨.tuple #[.agg #[.int .i64 t.n, .slice A1 t.ov.length c1, .slice A2 t.ls.length c2], .int .i64 0], by simp [results, Tryd.results8, go_sem, e0, e1, e2, e3], by rw [HVV.out]; exact ⟨A1, A2, c1, c2, rfl, hTT, HBE.out ▸ hbb⟩⟩
      · have HVV : Hid (V = (zeroT, 3)) := Lib.hid (by
          have e : textOf t ≠ s := by intro e; apply hTs; rw [HTT.out]; simp [textV, HVT.out, e]
          rw [HV.out]; unfold topoP; rw [← HWS.out, HFO.out]; simp [e])
        have hTb : (T == s) = false := by simpa using hTs
        go_wp2_with (first | (go_at_call 15; (with_reducible refine (HVA.out _ HTA.out).mono ?_); rintro e w2 ⟨rfl, hb⟩; replace HTA := Lib.hid (HTA.out.below hb); replace HTW := Lib.hid (tab_up HTW.out hb hb.size); replace HPD := Lib.hid (HPD.out.up hB1 hb); clear hb b0 b1 b2 bf; obtain ⟨b0, b1, b2, bf⟩ := HPD.out.1.cells) | (go_at_call 7; (with_reducible refine (HTX.out _ HTA.out HTW.out).mono ?_); rintro e w3 ⟨rfl, hb⟩; replace HPD := Lib.hid (HPD.out.up hB1 hb); clear hb b0 b1 b2 bf; have z0 := Lib.cell_of_heap HPD.out.2.1 (j := 0); have z1 := Lib.cell_of_heap HPD.out.2.1 (j := 1); have z2 := Lib.cell_of_heap HPD.out.2.1 (j := 2); have zf0 : w3.frozen? ⟨B, 0, none⟩ = false := Lib.frozen_of_heap HPD.out.2.1 _; have zf1 : w3.frozen? ⟨B, 1, none⟩ = false := Lib.frozen_of_heap HPD.out.2.1 _; have zf2 : w3.frozen? ⟨B, 2, none⟩ = false := Lib.frozen_of_heap HPD.out.2.1 _; have y0 := HPD.out.2.2.1.cell; have yf := HPD.out.2.2.1.frozen))
        obtain ⟨k1, q0, q1, hbb, _⟩ := HPD.out.fin hB1 hDD (.int .i64 0) (.slice none 0 0) (.slice none 0 0) (.int .i64 3)
        refine ⟨by simp, .inl ⟨_, _, rfl, run_takeDeferred k1, ?_⟩⟩
        have e0 := Lib.cell_of_heap q0 (j := 0)
        have e1 := Lib.cell_of_heap q0 (j := 1)
        have e2 := Lib.cell_of_heap q0 (j := 2)
        have e3 := q1.cell
        unfold Put4 at e0 e1 e2 e3
        exact ⟨.tuple #[.agg #[.int .i64 0, .slice none 0 0, .slice none 0 0], .int .i64 3], by simp [results, Tryd.results8, go_sem, e0, e1, e2, e3], by rw [HVV.out]; exact retTP_zero (HBE.out ▸ hbb)⟩
  case stop =>
    rintro D c k W hD hk ⟨⟨rfl, hf⟩, h0, h1, hB⟩ hK
    have HVV : Hid (V = (zeroT, 3)) := Lib.hid (by rw [HV.out]; unfold topoP; rw [← HWS.out, hf])
    clear hf
    gi_wp2
    have q0 := (World.putObj_heap_other (o := .deferred none) (show B ≠ D by omega)).trans h0
    have q1 : Boxed (W.putObj D (.deferred none)) (B + 1) _ _ := (World.putObj_heap_other (o := .deferred none) (show B + 1 ≠ D by omega)).trans h1
    refine ⟨by simp, .inl ⟨_, _, rfl, run_takeDeferred hK, ?_⟩⟩
    have e0 := Lib.cell_of_heap q0 (j := 0)
    have e1 := Lib.cell_of_heap q0 (j := 1)
    have e2 := Lib.cell_of_heap q0 (j := 2)
    have e3 := q1.cell
    have hbb : Below B w (W.putObj D (.deferred none)) := hB.trans ⟨rfl, rfl, rfl, by simp, fun k hk => World.putObj_heap_other (by omega)⟩
    exact ⟨.tuple #[.agg #[.int .i64 0, .slice none 0 0, .slice none 0 0], .int .i64 3], by simp [results, Tryd.results8, go_sem, e0, e1, e2, e3], by rw [HVV.out]; exact retTP_zero (HBE.out ▸ hbb)⟩

end Go.Proofs.YtfbloolloifndaaDoor
