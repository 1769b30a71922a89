/-
  config.Parse: the walk (printed by gen_cfgpb.py).
-/
import Derived.Test.YtfimacgmciogmaaGreatDoorPkCfgSp
namespace Go.Proofs.YtfimacgmciogmaaGreatDoor
set_option linter.unusedSimpArgs false
set_option linter.unusedVariables false
open Go.RowKit Go.Shelf Go.Sort
attribute [local go_sem] Oper.semAt_some
/-- The value of a configuration. -/
def confV (r : Rws) (c : Cf) : Value := .agg #[.slice r.aN c.names.length r.cN, .slice r.aL c.lnames.length r.cL, .int .i64 (c.names.length : Int), (if true ∈ c.ov then .slice r.aO c.ov.length r.cO else .slice none 0 0), .slice r.aK c.links.length r.cK, .slice r.aP c.pfx.length r.cP, .slice r.aQ c.pols.length r.cQ, .slice r.aD c.dems.length r.cD,
 .int .i64 (c.tm.getD 0 0), .int .i64 (c.tm.getD 1 0), .int .i64 (c.tm.getD 2 0), .int .i64 (c.tm.getD 3 0), .int .i64 (c.tm.getD 4 0)]
/-- What Parse returns. -/
def RetCf (w : World) (res : Except (Nat × Int) Cf) (e : Ending) (w' : World) : Prop :=
 (match res with
  | .ok c => ∃ r, e = .returned (.tuple #[confV r c, .int .i64 0, .int .i64 0]) ∧ Rows w.heap.size (rowsOf r c) w' ∧ r.ls.length = c.pols.length ∧ Lim c
  | .error (n, x) => e = .returned (.tuple #[.agg zeroK, .int .i64 (n : Int), .int .i64 x])) ∧ Below w.heap.size w w'
def finC : Except (Nat × Int) Cf → Except (Nat × Int) Cf
 | .error e => .error e
 | .ok c => if c.names = [] then .error (0, 8) else .ok c
theorem parseC_eq (s : List UInt8) : parseC s = finC (parseL (splitK 10 [] s) 0 c0) := by
 unfold parseC finC
 cases parseL (splitK 10 [] s) 0 c0 <;> rfl
/-- Where parsing stands behind k lines. -/
def IP (w : World) (b0 b1 b2 sb xb yb pb bp nb B : Nat) (V : Except (Nat × Int) Cf) (ps : List (List UInt8)) (k : Nat) (W : World) : Prop :=
 ∃ c r wv i dry, parseL (ps.drop k) k c = V ∧ c.pfx.length ≤ k ∧ St B pb sb xb yb r c wv i dry W ∧ r.ex = [] ∧ PX w b0 b1 b2 bp nb pb (k : Int) W
/-- How parsing was left. -/
def XP (w : World) (b0 b1 b2 : Nat) (V : Except (Nat × Int) Cf) (c : Code) (k : Nat) (W : World) : Prop :=
 c = .ret ∧ ∃ e, V = .error (k, e) ∧ W.heap[b0]? = some (.cells zeroK 33 (0, 0)) ∧ Boxed W b1 3 (.int .i64 (k : Int)) ∧ Boxed W b2 34 (.int .i64 e) ∧ Below b0 w W
theorem firmIP {w : World} {b0 b1 b2 sb xb yb pb bp nb B Bs n : Nat} {V : Except (Nat × Int) Cf} {ps : List (List UInt8)} (hn : B ≤ n) (hB : bp < B ∧ nb < B ∧ b0 < B ∧ b1 < B ∧ b2 < B) (hX : bp ≠ Bs ∧ nb ≠ Bs ∧ b0 ≠ Bs ∧ b1 ≠ Bs ∧ b2 ≠ Bs ∧ b0 ≤ Bs) (hw : b0 ≤ w.heap.size) (hb : Bs < B ∧ Bs ≠ pb ∧ Bs ≠ sb ∧ Bs ≠ xb ∧ Bs ≠ yb) : Firm n Bs (IP w b0 b1 b2 sb xb yb pb bp nb B V ps) := by
 rintro k X Y q ⟨c, r, wv, i, dry, h1, h2, h3, h4, h5⟩ hg hq
 refine ⟨c, r, wv, i, dry, h1, h2, h3.grown hg ?_ hb, h4, h5.grown hg ?_ hB hX hw⟩
 ·rcases hq with h | ⟨h, h'⟩
  ·exact .inl h
  ·exact .inr ⟨by omega, h'⟩
 ·rcases hq with h | ⟨h, h'⟩
  ·exact .inl h
  ·exact .inr (by omega)
theorem firmXP {w : World} {b0 b1 b2 Bs n : Nat} {V : Except (Nat × Int) Cf} (c : Code) (h0 : b0 ≠ Bs ∧ b1 ≠ Bs ∧ b2 ≠ Bs ∧ b0 ≤ Bs) (h1 : b0 < n ∧ b1 < n ∧ b2 < n) (hw : b0 ≤ w.heap.size) : Firm n Bs (XP w b0 b1 b2 V c) := by
 rintro k X Y q ⟨hc, e, h2, h3, h4, h5, h6⟩ hg hq
 have hq' : q = Bs ∨ n ≤ q := hq.imp id fun h => h.1
 have e' : ∀ b, b < n → b ≠ Bs → b < X.heap.size → Y.heap[b]? = X.heap[b]? := fun b h1 h2 h3 => hg.block b h3 (fun e => by injection e with e; omega)
 exact ⟨hc, e, h2, (e' _ h1.1 h0.1 (lt_of_heap h3)).trans h3, (e' _ h1.2.1 h0.2.1 h4.lt).trans h4, (e' _ h1.2.2 h0.2.2.1 h5.lt).trans h5,
  h6.grown hg (by have := h6.size; omega) (fun j ej => by injection ej with ej; have := h0.2.2.2; omega)⟩
/-- A region of one end, ahead of what stands behind it. -/
theorem cut_reg {F : Fence} {n : Nat} {P : Program} {c : Code} {Q : Exit → Act → World → Prop} {a : Act} {w : World} (R : Act → World → Prop) (h : c.wpIn F n P (fun e a' w' => e = .normal ∧ R a' w') a w) (k : ∀ a' w', R a' w' → Q .normal a' w') : c.wpIn F n P Q a w :=
 wpIn_mono h fun e a' w' ⟨he, hr⟩ => by subst he; exact k a' w' hr
/-- Between the two passes over a line. -/
def LQ (w : World) (b0 b1 b2 sb xb yb pb bp nb s1 s2 s3 B N0 : Nat) (W : World) (c : Cf) (ws : List (List UInt8)) (A : Option Addr) (cc k m : Nat) (wr : World) : Prop :=
 ∃ c' r' wv i d, St B pb sb xb yb r' c' wv i d wr ∧ r'.ex = [] ∧ PX w b0 b1 b2 bp nb pb ((k : Int) + 1) wr ∧ K3 s2 s1 s3 W wr ∧ KeepsFrom N0 W wr ∧
  (m ≤ 1 → c' = c ∧ wv = .slice A ws.length cc ∧ Rd wr A (ws.map strW) ∧ ∀ b o s, A = some ⟨b, o, s⟩ → b ≠ pb ∧ b < wr.heap.size) ∧ (m = 0 ∨ ∃ c1, lineS true c ws = .ok c1) ∧ (m = 2 → lineS false c ws = .ok c')
theorem k3_lo {a b c B : Nat} {X : List Nat} {W W' : World} (h : LoM B X W W') (hB : a < B ∧ b < B ∧ c < B) (hX : a ∉ X ∧ b ∉ X ∧ c ∉ X) : K3 a b c W W' := ⟨h.blk _ hB.1 hX.1, h.blk _ hB.2.1 hX.2.1, h.blk _ hB.2.2 hX.2.2⟩
theorem kf_lo {N B : Nat} {X : List Nat} {W W' : World} (h : LoM B X W W') (hN : B ≤ N) (hX : ∀ x ∈ X, x < B) : KeepsFrom N W W' := ⟨h.size, fun k o hk ho hc => h.oth k o (fun e => by have := hX k e; omega) ho hc⟩
theorem idx_two0 (w : World) : (Instr.index 57 (.agg #[.bool true, .bool false]) (.int .i64 0)).run Tryz.prog w = .ok (.bool true) w := by kernel_rfl
theorem idx_two1 (w : World) : (Instr.index 57 (.agg #[.bool true, .bool false]) (.int .i64 1)).run Tryz.prog w = .ok (.bool false) w := by kernel_rfl
theorem fin_keep {W : World} {b0 b1 b2 g : Nat} {v0 v1 v2 v3 v4 v5 v6 v7 v8 v9 v10 v11 v12 u1 u2 : Value} (h : g ≠ b0 ∧ g ≠ b1 ∧ g ≠ b2) : (((((((((((((((W.setCell ⟨b0, 0, none⟩ v0).setCell ⟨b0, 1, none⟩ v1).setCell ⟨b0, 2, none⟩ v2).setCell ⟨b0, 3, none⟩ v3).setCell ⟨b0, 4, none⟩ v4).setCell ⟨b0, 5, none⟩ v5).setCell ⟨b0, 6, none⟩ v6).setCell ⟨b0, 7, none⟩ v7).setCell ⟨b0, 8, none⟩ v8).setCell ⟨b0, 9, none⟩ v9).setCell ⟨b0, 10, none⟩ v10).setCell ⟨b0, 11, none⟩ v11).setCell ⟨b0, 12, none⟩ v12).setCell ⟨b1, 0, none⟩ u1).setCell ⟨b2, 0, none⟩ u2).heap[g]? = W.heap[g]? := by
 rw [Below.heap_setCell _ _ _ _ (by simpa using h.2.2), Below.heap_setCell _ _ _ _ (by simpa using h.2.1), Below.heap_setCell _ _ _ _ (by simpa using h.1), Below.heap_setCell _ _ _ _ (by simpa using h.1), Below.heap_setCell _ _ _ _ (by simpa using h.1), Below.heap_setCell _ _ _ _ (by simpa using h.1), Below.heap_setCell _ _ _ _ (by simpa using h.1), Below.heap_setCell _ _ _ _ (by simpa using h.1), Below.heap_setCell _ _ _ _ (by simpa using h.1), Below.heap_setCell _ _ _ _ (by simpa using h.1), Below.heap_setCell _ _ _ _ (by simpa using h.1), Below.heap_setCell _ _ _ _ (by simpa using h.1), Below.heap_setCell _ _ _ _ (by simpa using h.1), Below.heap_setCell _ _ _ _ (by simpa using h.1), Below.heap_setCell _ _ _ _ (by simpa using h.1)]
theorem wordsK_ne : ∀ (l u : List UInt8), ∀ y ∈ wordsK u l, y ≠ []
 | [], u, y, h => by
  unfold wordsK at h
  split at h
  ·cases h
  ·rename_i hu; simp at h; subst h; exact hu
 | x :: r, u, y, h => by
  unfold wordsK at h
  split at h
  ·rcases List.mem_append.1 h with h | h
   ·rcases List.mem_append.1 h with h | h
    ·split at h
     ·cases h
     ·rename_i hu; simp at h; subst h; exact hu
    ·split at h
     ·cases h
     ·simp at h; subst h; simp
   ·exact wordsK_ne r [] y h
  ·exact wordsK_ne r _ y h
theorem wordsS_ne {l : List UInt8} : ∀ y ∈ wordsS l, y ≠ [] := wordsK_ne _ _
set_option maxRecDepth 100000 in
set_option maxHeartbeats 8000000 in
theorem config_ParseL (s : List UInt8) (hs : s.length ≤ 1000000) (hln : (splitK 10 [] s).length ≤ 50001) (hlx : ∀ l ∈ splitK 10 [] s, l.length ≤ 1000000) (hwd : ∀ l ∈ splitK 10 [] s, (wordsS l).length ≤ 10000 ∧ ∀ x ∈ wordsS l, x.length ≤ 10000) (w : World) (hE : Errs w) (ht : Tab w.heap.size w) :
  Calls Tryz.prog 5 #[.string ⟨s.toArray⟩] w (RetCf w (parseC s)) := by
 have hmm := @run_makeMap Tryz.prog
 have HE := Lib.hid hE
 have HTb := Lib.hid ht
 have HWD := Lib.hid hwd
 have HLN := Lib.hid hln
 have HLX := Lib.hid hlx
 clear hE ht hwd hln hlx
 obtain ⟨ps, hps⟩ : ∃ ps, ps = splitK 10 [] s := ⟨_, rfl⟩
 obtain ⟨V, hV⟩ : ∃ V, V = parseL ps 0 c0 := ⟨_, rfl⟩
 have HRES : Hid (parseC s = finC V) := Lib.hid (by rw [hV, hps]; exact parseC_eq s)
 have HV := Lib.hid hV
 have HPS := Lib.hid hps
 clear hV hps
 generalize parseC s = RES at *
 refine (callsIn_wide (n := 3)).1 ?_
 refine callsIn_of_wp_marks Tryz.func5 rfl trivial ?_ rfl
 simp only [Tryz.ntmps5, List.size_toArray, List.length_cons, List.length_nil, Nat.reduceAdd, Nat.reduceSub, Array.replicate_succ, Array.replicate_zero, List.push_toArray, List.append_toArray, List.nil_append, List.cons_append]
 gi_wp2_with (refine ⟨trivial, ?_⟩; gi_at_call 10; refine (SplitSeq_in _ (by omega) _ _ _).mono ?_; rintro e w1 ⟨rfl, rfl⟩)
 have HST0 := Lib.hid (start_st w s)
 have HH := Lib.hid (fun j o h => allocL_heap (startL w.heap.size s) w j o h)
 have HSZ : Hid ((allocL w (startL w.heap.size s)).heap.size = w.heap.size + 12) := Lib.hid (by rw [allocL_size]; rfl)
 have HB0 := Lib.hid (allocL_below (startL w.heap.size s) w)
 change Code.wpIn _ _ _ _ _ _ (allocL w (startL w.heap.size s))
 have B0 : (allocL w (startL w.heap.size s)).heap[w.heap.size]? = some (.cells zeroK 33 (0, 0)) := HH.out 0 _ rfl
 have B1 : Boxed (allocL w (startL w.heap.size s)) (w.heap.size + 1) 3 (.int .i64 0) := HH.out 1 _ rfl
 have B2 : Boxed (allocL w (startL w.heap.size s)) (w.heap.size + 2) 34 (.int .i64 0) := HH.out 2 _ rfl
 have B7 : Boxed (allocL w (startL w.heap.size s)) (w.heap.size + 7) 46 (.pointer (some ⟨w.heap.size + 6, 0, none⟩)) := HH.out 7 _ rfl
 have B8 : Boxed (allocL w (startL w.heap.size s)) (w.heap.size + 8) 3 (.int .i64 0) := HH.out 8 _ rfl
 have B9 : Boxed (allocL w (startL w.heap.size s)) (w.heap.size + 9) 9 (.string ⟨s.toArray⟩) := HH.out 9 _ rfl
 have B10 : Boxed (allocL w (startL w.heap.size s)) (w.heap.size + 10) 9 (.string ⟨#[10]⟩) := HH.out 10 _ rfl
 have B11 : Boxed (allocL w (startL w.heap.size s)) (w.heap.size + 11) 3 (.int .i64 0) := HH.out 11 _ rfl
 clear HH
 generalize allocL w (startL w.heap.size s) = W0 at *
 have hst0 := HST0.out
 have hsz0 := HSZ.out
 clear HST0 HSZ
 obtain ⟨s3, es3⟩ : ∃ b, b = w.heap.size + 1 + 1 + 1 + 1 + 1 + 1 + 1 + 1 + 1 + 1 + 1 := ⟨_, rfl⟩
 try rw [show w.heap.size + 11 = s3 from es3.symm] at B11
 try rw [← es3]
 obtain ⟨s2, es2⟩ : ∃ b, b = w.heap.size + 1 + 1 + 1 + 1 + 1 + 1 + 1 + 1 + 1 + 1 := ⟨_, rfl⟩
 try rw [show w.heap.size + 10 = s2 from es2.symm] at B10
 try rw [← es2]
 obtain ⟨s1, es1⟩ : ∃ b, b = w.heap.size + 1 + 1 + 1 + 1 + 1 + 1 + 1 + 1 + 1 := ⟨_, rfl⟩
 try rw [show w.heap.size + 9 = s1 from es1.symm] at B9
 try rw [← es1]
 obtain ⟨nb, enb⟩ : ∃ b, b = w.heap.size + 1 + 1 + 1 + 1 + 1 + 1 + 1 + 1 := ⟨_, rfl⟩
 try rw [show w.heap.size + 8 = nb from enb.symm] at B8
 try rw [← enb]
 obtain ⟨bp, ebp⟩ : ∃ b, b = w.heap.size + 1 + 1 + 1 + 1 + 1 + 1 + 1 := ⟨_, rfl⟩
 try rw [show w.heap.size + 7 = bp from ebp.symm] at B7
 try rw [← ebp]
 obtain ⟨pb, epb⟩ : ∃ b, b = w.heap.size + 1 + 1 + 1 + 1 + 1 + 1 := ⟨_, rfl⟩
 try rw [show w.heap.size + 6 = pb from epb.symm] at B7 hst0
 try rw [← epb]
 obtain ⟨yb, eyb⟩ : ∃ b, b = w.heap.size + 1 + 1 + 1 + 1 + 1 := ⟨_, rfl⟩
 try rw [show w.heap.size + 5 = yb from eyb.symm] at hst0
 try rw [← eyb]
 obtain ⟨xb, exb⟩ : ∃ b, b = w.heap.size + 1 + 1 + 1 + 1 := ⟨_, rfl⟩
 try rw [show w.heap.size + 4 = xb from exb.symm] at hst0
 try rw [← exb]
 obtain ⟨sb, esb⟩ : ∃ b, b = w.heap.size + 1 + 1 + 1 := ⟨_, rfl⟩
 try rw [show w.heap.size + 3 = sb from esb.symm] at hst0
 try rw [← esb]
 obtain ⟨b2, eb2⟩ : ∃ b, b = w.heap.size + 1 + 1 := ⟨_, rfl⟩
 try rw [show w.heap.size + 2 = b2 from eb2.symm] at B2
 try rw [← eb2]
 obtain ⟨b1, eb1⟩ : ∃ b, b = w.heap.size + 1 := ⟨_, rfl⟩
 try rw [show w.heap.size + 1 = b1 from eb1.symm] at B1
 try rw [← eb1]
 obtain ⟨b0, eb0⟩ : ∃ b, b = w.heap.size := ⟨_, rfl⟩
 rw [← eb0] at B0
 try rw [← eb0]
 have HB0' : Below b0 w W0 := by rw [eb0]; exact HB0.out
 have hbw : b0 ≤ w.heap.size := by omega
 have HEB : Hid (b0 = w.heap.size) := Lib.hid eb0
 obtain ⟨B, eB⟩ : ∃ B, B = w.heap.size + 12 := ⟨_, rfl⟩
 rw [← eB] at hst0 hsz0
 have hord : b0 < b1 ∧ b1 < b2 ∧ b2 < sb ∧ sb < xb ∧ xb < yb ∧ yb < pb ∧ pb < bp ∧ bp < nb ∧ nb < s1 ∧ s1 < s2 ∧ s2 < s3 ∧ s3 < B := by omega
 have HENV : Hid (∀ W, Below b0 w W → Env pb W) := Lib.hid fun W hb => ⟨w, HE.out, HTb.out, by rw [← eb0]; exact hb, by omega⟩
 clear eb0 eb1 eb2 esb exb eyb epb ebp enb es1 es2 es3 eB HB0
 refine rangeC rfl (by omega) (gf := 53) (lb := #[.pointer (some ⟨s2, 0, none⟩), .pointer (some ⟨s1, 0, none⟩), .pointer (some ⟨s3, 0, none⟩)]) rfl trivial (enters_of Tryz.func53 (by kernel_rfl) rfl)
  (Bs := s1) (Kp := K3 s2 s1 s3) (ps := ps) B9.lt
  (by rw [HPS.out]; exact split1_in 2 (by omega) 10 [] s (.inl rfl) (by omega) _ _ _ _ (by omega) (by omega) B10 B9 B11)
  K3.trans (fun W l o' hl _ => K3.put (by omega) (by omega) (by omega) W l o' hl) rfl
  (IP w b0 b1 b2 sb xb yb pb bp nb B V ps) (XP w b0 b1 b2 V)
  (firmIP (by omega) (by omega) (by omega) hbw (by omega)) (fun c => firmXP c (by omega) (by omega) hbw)
  ⟨c0, r0, _, _, _, HV.out.symm, Nat.zero_le _, hst0, rfl, ⟨B7, B8, B0, B1, B2, HB0'⟩⟩
  (fun x => { tmps := #[.string ⟨s.toArray⟩, undef, .pointer (some ⟨b0, 0, none⟩), .pointer (some ⟨b1, 0, none⟩), .pointer (some ⟨b2, 0, none⟩), .pointer (some ⟨bp, 0, none⟩), .pointer (some ⟨nb, 0, none⟩), .string ⟨x.toArray⟩, undef, undef, undef, .map (some sb), .map (some xb), .map (some yb),
   .agg #[.slice none 0 0, .slice none 0 0, .int .i64 0, .slice none 0 0, .slice none 0 0, .slice none 0 0, .slice none 0 0, .slice none 0 0, .int .i64 0, .int .i64 0, .int .i64 0, .int .i64 0, .int .i64 0, .slice none 0 0, .map (some sb), .map (some xb), .map (some yb), .bool false, .bool false, .bool false, .bool false, .bool false, .slice none 0 0, .int .i64 0, .bool false],
   .pointer (some ⟨pb, 0, none⟩), .pointer (some ⟨pb, 0, none⟩), .agg #[.int .i64 10, .int .i64 35, .int .i64 5, .int .i64 20, .int .i64 20], .pointer (some ⟨pb, 0, none⟩), .pointer (some ⟨pb, 0, none⟩), .pointer (some ⟨pb, 8, none⟩), .string ⟨s.toArray⟩,
   .func (.func 53) #[] #[.pointer (some ⟨s2, 0, none⟩), .pointer (some ⟨s1, 0, none⟩), .pointer (some ⟨s3, 0, none⟩)], .string ⟨x.toArray⟩, undef, undef, undef, undef, undef, undef, undef, undef, undef, undef, undef, undef, undef, undef, undef, undef, undef, undef, undef, undef, undef, undef, undef, undef, undef, undef, undef, undef, undef, undef, undef, undef, undef, undef, undef, undef, undef, undef, undef, undef, undef, undef, undef, undef, undef, undef, undef, undef, undef, undef, undef, undef, undef, undef, undef, undef, undef, undef, undef, undef, undef, undef, undef, undef, undef, undef], defers := [] }) ?assign ?body ?done ?stop
 case assign =>
  intro l x W K hK
  gi_wp2
  exact hK
 case body =>
  rintro l k x W ⟨c, r, wv, i, dry, hg, hpk, hst, hex, hpx⟩ hx
  have hkl := (List.getElem?_eq_some_iff.1 hx).1
  have hpl : ps.length ≤ 50001 := by rw [HPS.out]; exact HLN.out
  have hxm : x ∈ splitK 10 [] s := by rw [← HPS.out]; exact List.mem_of_getElem? hx
  have hxl : x.length ≤ 1000000 := HLX.out x hxm
  have hd : ps.drop k = x :: ps.drop (k + 1) := by rw [List.drop_eq_getElem_cons hkl]; congr 1; exact (List.getElem?_eq_some_iff.1 hx).2
  rw [hd] at hg
  have HG := Lib.hid hg
  have HW := Lib.hid (HWD.out x hxm)
  have HPK := Lib.hid hpk
  have HST := Lib.hid hst
  have HEX := Lib.hid hex
  have HPX := Lib.hid hpx
  obtain ⟨ws, hws⟩ : ∃ ws, ws = wordsS x := ⟨_, rfl⟩
  have HWS := Lib.hid hws
  have HSP : Hid (∀ W', Calls Tryz.prog 11 #[.string ⟨x.toArray⟩] W' fun e w' => ∃ A c, e = .returned (.slice A ws.length c) ∧ ws.length ≤ c ∧ c ≤ maxLen ∧ Rd w' A (ws.map strW) ∧ Below W'.heap.size W' w' ∧ ∀ a, A = some a → W'.heap.size ≤ a.block ∧ a.block < w'.heap.size) := Lib.hid fun W' => by rw [hws]; exact cfg_split x (by omega) W'
  have n0 := hpx.hn.cell
  have nf := hpx.hn.frozen
  have p0 := hpx.hp.cell
  clear hg hpk hst hex hpx hx hd hxm hws
  gi_wp2
  have HST1 := Lib.hid (HST.out.other (q := nb) (j := 0) (by omega) (.int .i64 ((k : Int) + 1)))
  have HPX1 := Lib.hid (HPX.out.setN (by omega) ((k : Int) + 1))
  have hk1 : K3 s2 s1 s3 W (W.setCell ⟨nb, 0, none⟩ (.int .i64 ((k : Int) + 1))) := ⟨Below.heap_setCell _ _ _ _ (by simp; omega), Below.heap_setCell _ _ _ _ (by simp; omega), Below.heap_setCell _ _ _ _ (by simp; omega)⟩
  have hkf : KeepsFrom W0.heap.size W (W.setCell ⟨nb, 0, none⟩ (.int .i64 ((k : Int) + 1))) := (LoP.set HPX.out.hn (X := [nb]) (base := 0) (by simp) _).keeps
  have HK1 := Lib.hid hk1
  have HKF := Lib.hid hkf
  generalize W.setCell ⟨nb, 0, none⟩ (.int .i64 ((k : Int) + 1)) = W1 at *
  clear n0 nf p0 hk1 hkf
  have p0 := HPX1.out.hp.cell
  have c22 := HST1.out.wcell.1
  have f22 := HST1.out.frz 22
  have HLEN := Lib.hid HW.out
  refine cut_reg (fun a' w' => ∃ A cc w2, a' = { tmps := #[.string ⟨s.toArray⟩, undef, .pointer (some ⟨b0, 0, none⟩), .pointer (some ⟨b1, 0, none⟩), .pointer (some ⟨b2, 0, none⟩), .pointer (some ⟨bp, 0, none⟩), .pointer (some ⟨nb, 0, none⟩), .string ⟨x.toArray⟩, undef, undef, undef, .map (some sb), .map (some xb), .map (some yb), .agg #[.slice none 0 0, .slice none 0 0, .int .i64 0, .slice none 0 0, .slice none 0 0, .slice none 0 0, .slice none 0 0, .slice none 0 0, .int .i64 0, .int .i64 0, .int .i64 0, .int .i64 0, .int .i64 0, .slice none 0 0, .map (some sb), .map (some xb), .map (some yb), .bool false, .bool false, .bool false, .bool false, .bool false, .slice none 0 0, .int .i64 0, .bool false], .pointer (some ⟨pb, 0, none⟩), .pointer (some ⟨pb, 0, none⟩), .agg #[.int .i64 10, .int .i64 35, .int .i64 5, .int .i64 20, .int .i64 20], .pointer (some ⟨pb, 0, none⟩), .pointer (some ⟨pb, 0, none⟩), .pointer (some ⟨pb, 8, none⟩), .string ⟨s.toArray⟩, .func (.func 53) #[] #[.pointer (some ⟨s2, 0, none⟩), .pointer (some ⟨s1, 0, none⟩), .pointer (some ⟨s3, 0, none⟩)], .string ⟨x.toArray⟩, .int .i64 (k : Int), .int .i64 ((k : Int) + 1), .pointer (some ⟨pb, 0, none⟩), .string ⟨x.toArray⟩, .slice A ws.length cc, .pointer (some ⟨pb, 0, none⟩), .pointer (some ⟨pb, 22, none⟩), undef, undef, undef, undef, undef, undef, undef, undef, undef, undef, undef, undef, undef, undef, undef, undef, undef, undef, undef, undef, undef, undef, undef, undef, undef, undef, undef, undef, undef, undef, undef, undef, undef, undef, undef, undef, undef, undef, undef, undef, undef, undef, undef, undef, undef, undef, undef, undef, undef, undef, undef, undef, undef, undef, undef, undef, undef, undef, undef], defers := [] } ∧ w' = w2.setCell ⟨pb, 22, none⟩ (.slice A ws.length cc) ∧ ws.length ≤ cc ∧ Rd w2 A (ws.map strW) ∧ Below W1.heap.size W1 w2 ∧ ∀ a, A = some a → W1.heap.size ≤ a.block ∧ a.block < w2.heap.size) ?_ ?_
  ·gi_region_with (refine ⟨trivial, ?_⟩; gi_at_call 11; refine (CallsIn.inRound l (callsIn_wide.2 (HSP.out _))).mono ?_; rintro e w9 ⟨A, cc, rfl, hlc, hcm, hrd, hb9, hfr⟩; have p9 := cell_up hb9 p0; have c9 := cell_up hb9 c22; have f9 : w9.frozen? ⟨pb, 22, none⟩ = false := by have := (HST1.out.drew.up hb9).frz 22; exact this)
   all_goals exact ⟨rfl, _, _, _, rfl, rfl, hlc, hrd, (below_drw2 W1).trans hb9, hfr⟩
  rintro a' w' ⟨A, cc, w2, rfl, rfl, hlc, hrd, hb2, hfr⟩
  have HST2 := Lib.hid ((HST1.out.up hb2).setW (.slice A ws.length cc)).1
  have hln := ((HST1.out.up hb2).setW (.slice A ws.length cc)).2
  have hlo : LoN pb W1 (w2.setCell ⟨pb, 22, none⟩ (.slice A ws.length cc)) := (LoN.below hb2).trans hln
  have HPX2 := Lib.hid (HPX1.out.lo (hlo.toM (B := B) (Y := [pb]) HST1.out.sz (by simp)) (by omega) (by simp; omega) (by simp; omega) hbw)
  have HAW : Hid (∀ b o s, A = some ⟨b, o, s⟩ → b ≠ pb ∧ B ≤ b ∧ b < (w2.setCell ⟨pb, 22, none⟩ (.slice A ws.length cc)).heap.size) := Lib.hid (by
   intro b o s2 e
   have h1 := hfr _ e
   have h2 := HST1.out.sz
   have h3 := HST1.out.bl.1
   simp only at h1
   exact ⟨by omega, by omega, by simpa using h1.2⟩)
  have HRD := Lib.hid (rd_blocks hrd (w' := w2.setCell ⟨pb, 22, none⟩ (.slice A ws.length cc)) (fun b o s2 e => Below.heap_setCell _ _ _ _ (by have := (HAW.out b o s2 e).1; simpa using this)))
  have HK2 : Hid (K3 s2 s1 s3 W (w2.setCell ⟨pb, 22, none⟩ (.slice A ws.length cc))) := Lib.hid (HK1.out.trans ⟨hlo.blk _ (by have := HST1.out.sz; omega) (by simp; omega), hlo.blk _ (by have := HST1.out.sz; omega) (by simp; omega), hlo.blk _ (by have := HST1.out.sz; omega) (by simp; omega)⟩)
  have HKF2 : Hid (KeepsFrom W0.heap.size W (w2.setCell ⟨pb, 22, none⟩ (.slice A ws.length cc))) := Lib.hid (HKF.out.trans hlo.keeps)
  generalize w2.setCell ⟨pb, 22, none⟩ (.slice A ws.length cc) = w3 at *
  clear hrd hb2 hfr hln hlo p0 c22 f22
  have p0 := HPX2.out.hp.cell
  have c22 := HST2.out.wcell.1
  by_cases hwn : ws = []
  ·subst hwn
   have hw0 : (([] : List (List UInt8)).length : Int) = 0 := rfl
   gi_wp2
   exact ⟨HKF2.out, HK2.out, c, r, _, _, _, (parseL_skip HWS.out.symm).symm.trans HG.out, by have := HPK.out; omega, HST2.out, HEX.out, by rw [show (((k + 1 : Nat)) : Int) = (k : Int) + 1 by omega]; exact HPX2.out⟩
  have hw0 : ((ws.length : Int) == 0) = false := by rw [beq_eq_false_iff_ne]; intro e; exact hwn (List.eq_nil_of_length_eq_zero (by omega))
  have HNE : Hid (¬ wordsS x = []) := Lib.hid (by rw [← HWS.out]; exact hwn)
  have HWN := Lib.hid hwn
  have HAL : Hid (ws.length ≤ 10000 ∧ ∀ y ∈ ws, y ≠ [] ∧ y.length ≤ 10000) := Lib.hid (by
   rw [HWS.out]
   exact ⟨HLEN.out.1, fun y hy => ⟨wordsS_ne y hy, HLEN.out.2 y hy⟩⟩)
  have HQ0 : Hid (LQ w b0 b1 b2 sb xb yb pb bp nb s1 s2 s3 B W0.heap.size W c ws A cc k 0 w3) := Lib.hid ⟨c, r, _, _, _, HST2.out, HEX.out, HPX2.out, HK2.out, HKF2.out, fun _ => ⟨rfl, rfl, HRD.out, fun b o s2 e => ⟨(HAW.out b o s2 e).1, (HAW.out b o s2 e).2.2⟩⟩, .inl rfl, fun h => by cases h⟩
  clear hwn
  gi_wp2
  clear p0 c22 hw0
  have hix0 := idx_two0
  have hix1 := idx_two1
  gi_loopw [38] (fun iv wr => ∃ m : Nat, m ≤ 2 ∧ iv = .int .i64 m ∧ Hid (LQ w b0 b1 b2 sb xb yb pb bp nb s1 s2 s3 B W0.heap.size W c ws A cc k m wr)) (fun iv _ => 2 - (intOf iv).toNat)
  case atStart => exact ⟨0, by omega, rfl, HQ0⟩
  case round =>
   clear HQ0 HST2 HPX2 HRD HK2 HKF2
   obtain ⟨m, hm, rfl, HQ⟩ := hrel
   have hmc : m = 0 ∨ m = 1 ∨ m = 2 := by omega
   rcases hmc with rfl | rfl | rfl
   ·obtain ⟨c', r', wv', i', d', hst, hex, hpx, hk3, hkf, hm1, hl1, _⟩ := HQ.out
    obtain ⟨hcc, rfl, hrd, haw⟩ := hm1 (by omega)
    replace hcc := hcc.symm
    subst hcc
    have p0 := hpx.hp.cell
    have c24 := hst.wcell.2
    have f24 := hst.frz 24
    obtain ⟨hst5, hl5⟩ := hst.setD true
    have HRD5 := Lib.hid (rd_blocks hrd (w' := wr.setCell ⟨pb, 24, none⟩ (.bool true)) (fun b o s3 e => hl5.blk b (haw b o s3 e).2 (by have := (haw b o s3 e).1; simpa using this)))
    have HAW5 : Hid (∀ b o s3, A = some ⟨b, o, s3⟩ → b ≠ pb ∧ b < (wr.setCell ⟨pb, 24, none⟩ (.bool true)).heap.size) := Lib.hid (fun b o s3 e => ⟨(haw b o s3 e).1, Nat.lt_of_lt_of_le (haw b o s3 e).2 hl5.size⟩)
    have hm5 := hl5.toM (B := B) (Y := [pb, sb, xb, yb]) hst.sz (by simp)
    have HPX5 := Lib.hid (hpx.lo hm5 (by omega) (by simp; omega) (by simp; omega) hbw)
    have HK5 : Hid (K3 s2 s1 s3 W (wr.setCell ⟨pb, 24, none⟩ (.bool true))) := Lib.hid (hk3.trans (k3_lo hm5 (by omega) (by simp; omega)))
    have HKF5 : Hid (KeepsFrom W0.heap.size W (wr.setCell ⟨pb, 24, none⟩ (.bool true))) := Lib.hid (hkf.trans (kf_lo hm5 (by omega) (by simp; omega)))
    obtain ⟨V1, hV1⟩ : ∃ V1, V1 = lineS true c ws := ⟨_, rfl⟩
    have HL : Hid (Calls Tryz.prog 12 #[.pointer (some ⟨pb, 0, none⟩)] (wr.setCell ⟨pb, 24, none⟩ (.bool true)) (RetL B pb sb xb yb r' c A cc ws true (wr.setCell ⟨pb, 24, none⟩ (.bool true)) V1)) := Lib.hid (by rw [hV1]; exact cfg_line ⟨hst5, HRD5.out, HAW5.out, HAL.out⟩ HWN.out (HENV.out _ HPX5.out.hb) (by have := HPK.out; omega))
    have HNZ : Hid (∀ e, V1 = .error e → e ≠ 0) := Lib.hid fun e he h0 => lineS_ne0 (hV1.symm.trans (he.trans (by rw [h0])))
    have HV1 := Lib.hid hV1
    have HX5 := Lib.hid hex
    have HSZ5 := Lib.hid hst5.sz
    clear HQ hst hex hpx hk3 hkf hm1 hl1 hrd haw hst5 hl5 hm5 hV1
    cases V1 with
    | error e1 =>
     have he1 : ((e1 : Int) != 0) = true := by rw [bne_iff_ne]; exact HNZ.out e1 rfl
     have he2 : (e1 == 0) = false := by rw [beq_eq_false_iff_ne]; exact HNZ.out e1 rfl
     gi_wp2_with (refine ⟨trivial, ?_⟩; gi_at_call 12; refine (CallsIn.inRound l (callsIn_wide.2 HL.out)).mono ?_; rintro e w9 ⟨rfl, hl9⟩; have HL9 := Lib.hid (hl9.toM (B := B) (Y := [pb]) HSZ5.out (by simp)); clear hl9)
     have HPX9 := Lib.hid (HPX5.out.lo HL9.out (by omega) (by simp; omega) (by simp; omega) hbw)
     have HVV : Hid (V = .error (k + 1, e1)) := Lib.hid (HG.out.symm.trans (parseL_e1 HNE.out (by rw [← HWS.out]; exact HV1.out.symm)))
     have HKF9 : Hid (KeepsFrom W0.heap.size W w9) := Lib.hid (HKF5.out.trans (kf_lo HL9.out (by omega) (by simp; omega)))
     clear he1 he2 p0 c24 f24
     have z0 := Lib.cell_of_heap HPX9.out.h0
     have zf : ∀ i, w9.frozen? ⟨b0, i, none⟩ = false := fun i => Lib.frozen_of_heap HPX9.out.h0 i
     have n0 := HPX9.out.hn.cell
     have y1 := HPX9.out.h1.cell
     have y1f := HPX9.out.h1.frozen
     have y2 := HPX9.out.h2.cell
     have y2f := HPX9.out.h2.frozen
     have q0 := z0 0
     have q1 := z0 1
     have q2 := z0 2
     have q3 := z0 3
     have q4 := z0 4
     have q5 := z0 5
     have q6 := z0 6
     have q7 := z0 7
     have q8 := z0 8
     have q9 := z0 9
     have q10 := z0 10
     have q11 := z0 11
     have q12 := z0 12
     simp only [zeroK] at q0 q1 q2 q3 q4 q5 q6 q7 q8 q9 q10 q11 q12
     clear z0
     refine cut_reg (fun a' w' => w'.heap[b0]? = some (.cells zeroK 33 (0, 0)) ∧ Boxed w' b1 3 (.int .i64 ((k : Int) + 1)) ∧ Boxed w' b2 34 (.int .i64 e1) ∧ KeepsFrom W0.heap.size w9 w' ∧ Below b0 w w') ?_ ?_
     ·gi_region
      all_goals exact ⟨rfl, put15 (put13 HPX9.out.h0 _ _ _ _ _ _ _ _ _ _ _ _ _) HPX9.out.h1 HPX9.out.h2 (by omega) HPX9.out.hb hbw rfl⟩
     rintro a' w' ⟨g0, g1, g2, g3, g4⟩
     gi_wp2
     exact ⟨HKF9.out.trans g3, rfl, e1, HVV.out, g0, by rw [show (((k + 1 : Nat)) : Int) = (k : Int) + 1 by omega]; exact g1, g2, g4⟩
    | ok c9 =>
     gi_wp2_with (refine ⟨trivial, ?_⟩; gi_at_call 12; refine (CallsIn.inRound l (callsIn_wide.2 HL.out)).mono ?_; rintro e w9 ⟨rfl, hm9, r9, i9, hst9, hdry9, hex9⟩; replace hex9 := hex9.trans HX5.out; have HM9 := Lib.hid hm9; clear hm9)
     go_roundw
     case rel => exact ⟨1, by omega, by go_num, Lib.hid ⟨c9, r9, _, _, _, hst9, hex9, HPX5.out.lo HM9.out (by omega) (by simp; omega) (by simp; omega) hbw, (HK5.out.trans (k3_lo HM9.out (by omega) (by simp; omega))), HKF5.out.trans (kf_lo HM9.out (by omega) (by simp; omega)), fun _ => ⟨(hdry9 (by first | rfl | trivial)).1, rfl, rd_blocks HRD5.out (fun b o s3 e => (hdry9 (by first | rfl | trivial)).2.blk b (HAW5.out b o s3 e).2 (by have := (HAW5.out b o s3 e).1; simpa using this)), fun b o s3 e => ⟨(HAW5.out b o s3 e).1, Nat.lt_of_lt_of_le (HAW5.out b o s3 e).2 (hdry9 (by first | rfl | trivial)).2.size⟩⟩, .inr ⟨_, HV1.out.symm⟩, fun h => by cases h⟩⟩
     case measure => simp [intOf]
   ·obtain ⟨c', r', wv', i', d', hst, hex, hpx, hk3, hkf, hm1, hl1, _⟩ := HQ.out
    obtain ⟨hcc, rfl, hrd, haw⟩ := hm1 (by omega)
    replace hcc := hcc.symm
    subst hcc
    obtain ⟨cdry, hdl⟩ : ∃ c1, lineS true c ws = .ok c1 := hl1.resolve_left (by omega)
    have HDRY := Lib.hid hdl
    clear hdl
    have p0 := hpx.hp.cell
    have c24 := hst.wcell.2
    have f24 := hst.frz 24
    obtain ⟨hst5, hl5⟩ := hst.setD false
    have HRD5 := Lib.hid (rd_blocks hrd (w' := wr.setCell ⟨pb, 24, none⟩ (.bool false)) (fun b o s3 e => hl5.blk b (haw b o s3 e).2 (by have := (haw b o s3 e).1; simpa using this)))
    have HAW5 : Hid (∀ b o s3, A = some ⟨b, o, s3⟩ → b ≠ pb ∧ b < (wr.setCell ⟨pb, 24, none⟩ (.bool false)).heap.size) := Lib.hid (fun b o s3 e => ⟨(haw b o s3 e).1, Nat.lt_of_lt_of_le (haw b o s3 e).2 hl5.size⟩)
    have hm5 := hl5.toM (B := B) (Y := [pb, sb, xb, yb]) hst.sz (by simp)
    have HPX5 := Lib.hid (hpx.lo hm5 (by omega) (by simp; omega) (by simp; omega) hbw)
    have HK5 : Hid (K3 s2 s1 s3 W (wr.setCell ⟨pb, 24, none⟩ (.bool false))) := Lib.hid (hk3.trans (k3_lo hm5 (by omega) (by simp; omega)))
    have HKF5 : Hid (KeepsFrom W0.heap.size W (wr.setCell ⟨pb, 24, none⟩ (.bool false))) := Lib.hid (hkf.trans (kf_lo hm5 (by omega) (by simp; omega)))
    obtain ⟨V1, hV1⟩ : ∃ V1, V1 = lineS false c ws := ⟨_, rfl⟩
    have HL : Hid (Calls Tryz.prog 12 #[.pointer (some ⟨pb, 0, none⟩)] (wr.setCell ⟨pb, 24, none⟩ (.bool false)) (RetL B pb sb xb yb r' c A cc ws false (wr.setCell ⟨pb, 24, none⟩ (.bool false)) V1)) := Lib.hid (by rw [hV1]; exact cfg_line ⟨hst5, HRD5.out, HAW5.out, HAL.out⟩ HWN.out (HENV.out _ HPX5.out.hb) (by have := HPK.out; omega))
    have HNZ : Hid (∀ e, V1 = .error e → e ≠ 0) := Lib.hid fun e he h0 => lineS_ne0 (hV1.symm.trans (he.trans (by rw [h0])))
    have HV1 := Lib.hid hV1
    have HX5 := Lib.hid hex
    have HSZ5 := Lib.hid hst5.sz
    clear HQ hst hex hpx hk3 hkf hm1 hl1 hrd haw hst5 hl5 hm5 hV1
    cases V1 with
    | error e1 =>
     have he1 : ((e1 : Int) != 0) = true := by rw [bne_iff_ne]; exact HNZ.out e1 rfl
     have he2 : (e1 == 0) = false := by rw [beq_eq_false_iff_ne]; exact HNZ.out e1 rfl
     gi_wp2_with (refine ⟨trivial, ?_⟩; gi_at_call 12; refine (CallsIn.inRound l (callsIn_wide.2 HL.out)).mono ?_; rintro e w9 ⟨rfl, hl9⟩; have HL9 := Lib.hid (hl9.toM (B := B) (Y := [pb]) HSZ5.out (by simp)); clear hl9)
     have HPX9 := Lib.hid (HPX5.out.lo HL9.out (by omega) (by simp; omega) (by simp; omega) hbw)
     have HVV : Hid (V = .error (k + 1, e1)) := Lib.hid (HG.out.symm.trans (parseL_e2 HNE.out (by rw [← HWS.out]; exact HDRY.out) (by rw [← HWS.out]; exact HV1.out.symm)))
     have HKF9 : Hid (KeepsFrom W0.heap.size W w9) := Lib.hid (HKF5.out.trans (kf_lo HL9.out (by omega) (by simp; omega)))
     clear he1 he2 p0 c24 f24
     have z0 := Lib.cell_of_heap HPX9.out.h0
     have zf : ∀ i, w9.frozen? ⟨b0, i, none⟩ = false := fun i => Lib.frozen_of_heap HPX9.out.h0 i
     have n0 := HPX9.out.hn.cell
     have y1 := HPX9.out.h1.cell
     have y1f := HPX9.out.h1.frozen
     have y2 := HPX9.out.h2.cell
     have y2f := HPX9.out.h2.frozen
     have q0 := z0 0
     have q1 := z0 1
     have q2 := z0 2
     have q3 := z0 3
     have q4 := z0 4
     have q5 := z0 5
     have q6 := z0 6
     have q7 := z0 7
     have q8 := z0 8
     have q9 := z0 9
     have q10 := z0 10
     have q11 := z0 11
     have q12 := z0 12
     simp only [zeroK] at q0 q1 q2 q3 q4 q5 q6 q7 q8 q9 q10 q11 q12
     clear z0
     refine cut_reg (fun a' w' => w'.heap[b0]? = some (.cells zeroK 33 (0, 0)) ∧ Boxed w' b1 3 (.int .i64 ((k : Int) + 1)) ∧ Boxed w' b2 34 (.int .i64 e1) ∧ KeepsFrom W0.heap.size w9 w' ∧ Below b0 w w') ?_ ?_
     ·gi_region
      all_goals exact ⟨rfl, put15 (put13 HPX9.out.h0 _ _ _ _ _ _ _ _ _ _ _ _ _) HPX9.out.h1 HPX9.out.h2 (by omega) HPX9.out.hb hbw rfl⟩
     rintro a' w' ⟨g0, g1, g2, g3, g4⟩
     gi_wp2
     exact ⟨HKF9.out.trans g3, rfl, e1, HVV.out, g0, by rw [show (((k + 1 : Nat)) : Int) = (k : Int) + 1 by omega]; exact g1, g2, g4⟩
    | ok c9 =>
     gi_wp2_with (refine ⟨trivial, ?_⟩; gi_at_call 12; refine (CallsIn.inRound l (callsIn_wide.2 HL.out)).mono ?_; rintro e w9 ⟨rfl, hm9, r9, i9, hst9, hdry9, hex9⟩; replace hex9 := hex9.trans HX5.out; have HM9 := Lib.hid hm9; clear hm9)
     go_roundw
     case rel => exact ⟨2, by omega, by go_num, Lib.hid ⟨c9, r9, _, _, _, hst9, hex9, HPX5.out.lo HM9.out (by omega) (by simp; omega) (by simp; omega) hbw, (HK5.out.trans (k3_lo HM9.out (by omega) (by simp; omega))), HKF5.out.trans (kf_lo HM9.out (by omega) (by simp; omega)), fun h => by omega, .inr ⟨_, HDRY.out⟩, fun _ => HV1.out.symm⟩⟩
     case measure => simp [intOf]
   ·obtain ⟨c', r', wv', i', d', hst, hex, hpx, hk3, hkf, _, hl1, hl2⟩ := HQ.out
    obtain ⟨c1, hl1⟩ : ∃ c1, lineS true c ws = .ok c1 := hl1.resolve_left (by omega)
    have HFIN := Lib.hid (And.intro hst (And.intro hex (And.intro hpx (And.intro hk3 (And.intro hkf (And.intro hl1 (hl2 rfl)))))))
    clear hst hex hpx hk3 hkf hl1 hl2 HQ
    gi_wp2
    obtain ⟨hst, hex, hpx, hk3, hkf, hl1, hl2⟩ := HFIN.out
    exact ⟨hkf, hk3, c', r', _, _, _, (parseL_go HNE.out (by rw [← HWS.out]; exact hl1) (by rw [← HWS.out]; exact hl2)).symm.trans HG.out, by have := lineS_pfx hl2; have := HPK.out; omega, hst, hex, by rw [show (((k + 1 : Nat)) : Int) = (k : Int) + 1 by omega]; exact hpx⟩
 case done =>
  rintro D W hD ⟨c, r, wv, i, dry, hg, hpk, hst, hex, hpx⟩ hK
  rw [List.drop_length] at hg
  have HVV : Hid (V = .ok c) := Lib.hid (by rw [← hg]; rfl)
  clear hg
  have HST := Lib.hid hst
  have HEX := Lib.hid hex
  have HPX := Lib.hid hpx
  have HKD := Lib.hid hK
  have p0 := hpx.hp.cell
  have k0 : W.cell? ⟨pb, 0, none⟩ = some (.slice r.aN c.names.length r.cN) := hst.cell 0 (by decide)
  clear hst hex hpx hK
  by_cases hnm : c.names = []
  ·have HR : Hid (RES = .error (0, 8)) := Lib.hid (by rw [HRES.out, HVV.out]; simp [finC, hnm])
   have hn0 : c.names.length = 0 := by rw [hnm]; rfl
   have z0 := Lib.cell_of_heap HPX.out.h0
   have zf : ∀ i, W.frozen? ⟨b0, i, none⟩ = false := fun i => Lib.frozen_of_heap HPX.out.h0 i
   have y1 := HPX.out.h1.cell
   have y1f := HPX.out.h1.frozen
   have y2 := HPX.out.h2.cell
   have y2f := HPX.out.h2.frozen
   have q0 := z0 0
   have q1 := z0 1
   have q2 := z0 2
   have q3 := z0 3
   have q4 := z0 4
   have q5 := z0 5
   have q6 := z0 6
   have q7 := z0 7
   have q8 := z0 8
   have q9 := z0 9
   have q10 := z0 10
   have q11 := z0 11
   have q12 := z0 12
   simp only [zeroK] at q0 q1 q2 q3 q4 q5 q6 q7 q8 q9 q10 q11 q12
   clear z0
   gi_wp2
   obtain ⟨g0, h1, h2, g3, g4⟩ := put15n (N := W0.heap.size) (put13 HPX.out.h0 (.slice none 0 0) (.slice none 0 0) (.int .i64 0) (.slice none 0 0) (.slice none 0 0) (.slice none 0 0) (.slice none 0 0) (.slice none 0 0) (.int .i64 0) (.int .i64 0) (.int .i64 0) (.int .i64 0) (.int .i64 0)) HPX.out.h1 HPX.out.h2 (u1 := .int .i64 0) (u2 := .int .i64 8) (by omega) HPX.out.hb hbw rfl
   have hK := g3.2 D _ hD HKD.out rfl
   refine ⟨by simp, .inl ⟨_, _, rfl, run_takeDeferred hK, ?_⟩⟩
   have gg := (World.putObj_heap_other (o := .deferred none) (show b0 ≠ D by omega)).trans g0
   have e1 := (show Boxed _ b1 3 (.int .i64 0) from (World.putObj_heap_other (o := .deferred none) (show b1 ≠ D by omega)).trans h1).cell
   have e2 := (show Boxed _ b2 34 (.int .i64 8) from (World.putObj_heap_other (o := .deferred none) (show b2 ≠ D by omega)).trans h2).cell
   have z := Lib.cell_of_heap gg
   have z0 := z 0
   have z1 := z 1
   have z2 := z 2
   have z3 := z 3
   have z4 := z 4
   have z5 := z 5
   have z6 := z 6
   have z7 := z 7
   have z8 := z 8
   have z9 := z 9
   have z10 := z 10
   have z11 := z 11
   have z12 := z 12
   exact ⟨.tuple #[.agg zeroK, .int .i64 0, .int .i64 8], by simp [results, Tryz.results5, go_sem, zeroK, z0, z1, z2, z3, z4, z5, z6, z7, z8, z9, z10, z11, z12, e1, e2], by rw [HR.out]; exact ⟨rfl, HEB.out ▸ g4.trans (belowK_b (w := w) hbw _ D _ _ (by have := HEB.out; omega) hK rfl rfl)⟩⟩
  ·have hn0 : ((c.names.length : Int) == 0) = false := by rw [beq_eq_false_iff_ne]; intro e; exact hnm (List.eq_nil_of_length_eq_zero (by omega))
   have HR : Hid (RES = .ok c) := Lib.hid (by rw [HRES.out, HVV.out]; simp [finC, hnm])
   clear hnm
   gi_wp2
   have k2 : W.cell? ⟨pb, 2, none⟩ = some (.int .i64 0) := HST.out.cell 2 (by decide)
   have k2f := HST.out.frz 2
   gi_region
   have HC : Hid (∀ W', (∀ k, k ≠ pb → W'.heap[k]? = W.heap[k]?) → Calls Tryz.prog 13 #[.slice r.aO c.ov.length r.cO, .bool true] W' fun e w' => e = .returned (.bool (decide (true ∈ c.ov))) ∧ W' = w') := Lib.hid fun W' h => by
    obtain ⟨A, cp, he, h1, h2, h3⟩ := rd_of_own HST.out.ownO
    injection he with he1 he2 he3
    have hlt := HST.out.ownO.lt
    refine slices_ContainsB _ _ _ _ ?_ (by have := HST.out.lim.ov; have := HST.out.lim.names; omega)
    rw [he1]
    exact rd_blocks h3 (fun b o s2 e => h b (fun e2 => by
     have := (hlt b (by rw [ownBlock_A, he1, e]; rfl)).1
     have := HST.out.bl.1.1
     omega))
   have k1 : W.cell? ⟨pb, 1, none⟩ = some (.slice r.aL c.lnames.length r.cL) := HST.out.cell 1 (by decide)
   have k3 : W.cell? ⟨pb, 3, none⟩ = some (.slice none 0 0) := HST.out.cell 3 (by decide)
   have k4 : W.cell? ⟨pb, 4, none⟩ = some (.slice r.aK c.links.length r.cK) := HST.out.cell 4 (by decide)
   have k5 : W.cell? ⟨pb, 5, none⟩ = some (.slice r.aP c.pfx.length r.cP) := HST.out.cell 5 (by decide)
   have k6 : W.cell? ⟨pb, 6, none⟩ = some (.slice r.aQ c.pols.length r.cQ) := HST.out.cell 6 (by decide)
   have k7 : W.cell? ⟨pb, 7, none⟩ = some (.slice r.aD c.dems.length r.cD) := HST.out.cell 7 (by decide)
   have k8 : W.cell? ⟨pb, 8, none⟩ = some (.int .i64 (c.tm.getD 0 0)) := HST.out.cell 8 (by decide)
   have k9 : W.cell? ⟨pb, 9, none⟩ = some (.int .i64 (c.tm.getD 1 0)) := HST.out.cell 9 (by decide)
   have k10 : W.cell? ⟨pb, 10, none⟩ = some (.int .i64 (c.tm.getD 2 0)) := HST.out.cell 10 (by decide)
   have k11 : W.cell? ⟨pb, 11, none⟩ = some (.int .i64 (c.tm.getD 3 0)) := HST.out.cell 11 (by decide)
   have k12 : W.cell? ⟨pb, 12, none⟩ = some (.int .i64 (c.tm.getD 4 0)) := HST.out.cell 12 (by decide)
   have k13 : W.cell? ⟨pb, 13, none⟩ = some (.slice r.aO c.ov.length r.cO) := HST.out.cell 13 (by decide)
   have k3f := HST.out.frz 3
   have z0 := Lib.cell_of_heap HPX.out.h0
   have zf : ∀ i, W.frozen? ⟨b0, i, none⟩ = false := fun i => Lib.frozen_of_heap HPX.out.h0 i
   have y1 := HPX.out.h1.cell
   have y1f := HPX.out.h1.frozen
   have y2 := HPX.out.h2.cell
   have y2f := HPX.out.h2.frozen
   have q0 := z0 0
   have q1 := z0 1
   have q2 := z0 2
   have q3 := z0 3
   have q4 := z0 4
   have q5 := z0 5
   have q6 := z0 6
   have q7 := z0 7
   have q8 := z0 8
   have q9 := z0 9
   have q10 := z0 10
   have q11 := z0 11
   have q12 := z0 12
   simp only [zeroK] at q0 q1 q2 q3 q4 q5 q6 q7 q8 q9 q10 q11 q12
   clear z0
   obtain ⟨t0, ht0⟩ : ∃ t, t = c.tm.getD 0 0 := ⟨_, rfl⟩
   obtain ⟨t1, ht1⟩ : ∃ t, t = c.tm.getD 1 0 := ⟨_, rfl⟩
   obtain ⟨t2, ht2⟩ : ∃ t, t = c.tm.getD 2 0 := ⟨_, rfl⟩
   obtain ⟨t3, ht3⟩ : ∃ t, t = c.tm.getD 3 0 := ⟨_, rfl⟩
   obtain ⟨t4, ht4⟩ : ∃ t, t = c.tm.getD 4 0 := ⟨_, rfl⟩
   rw [← ht0] at k8
   rw [← ht1] at k9
   rw [← ht2] at k10
   rw [← ht3] at k11
   rw [← ht4] at k12
   cases hov : decide (true ∈ c.ov) with
   | false =>
    rw [hov] at HC
    have HCV : Hid (confV r c = .agg #[.slice r.aN c.names.length r.cN, .slice r.aL c.lnames.length r.cL, .int .i64 (c.names.length : Int), .slice none 0 0, .slice r.aK c.links.length r.cK, .slice r.aP c.pfx.length r.cP, .slice r.aQ c.pols.length r.cQ, .slice r.aD c.dems.length r.cD, .int .i64 t0, .int .i64 t1, .int .i64 t2, .int .i64 t3, .int .i64 t4]) := Lib.hid (by unfold confV; rw [if_neg (of_decide_eq_false hov), ht0, ht1, ht2, ht3, ht4])
    clear hov ht0 ht1 ht2 ht3 ht4
    gi_wp2_with (refine ⟨trivial, ?_⟩; gi_at_call 13; refine (callsIn_wide.2 (HC.out (W.setCell ⟨pb, 2, none⟩ (.int .i64 (c.names.length : Int))).drew (fun k hk => Below.heap_setCell W ⟨pb, 2, none⟩ (.int .i64 (c.names.length : Int)) k (by simpa using hk)))).mono ?_; rintro e w9 ⟨rfl, rfl⟩)
    have hLX := (show LoN pb W (W.setCell ⟨pb, 2, none⟩ (.int .i64 (c.names.length : Int))) from LoP.setC HST.out.blk (.inl (by simp)) (Nat.le_refl _) _)
    have HPXX := HPX.out.lo (hLX.toM (B := B) (Y := [pb]) HST.out.sz (by simp)) (by omega) (by simp; omega) (by simp; omega) hbw
    have hKX := (kf_lo (N := W0.heap.size) (hLX.toM (B := B) (Y := [pb]) HST.out.sz (by simp)) (by omega) (by simp; omega)).2 D _ hD HKD.out rfl
    have hrX := HST.out.rows.keep (W' := (W.setCell ⟨pb, 2, none⟩ (.int .i64 (c.names.length : Int)))) fun g q1 q2 => hLX.blk g q2 (by have := HST.out.bl.1.1; simp; omega)
    clear q0 q1 q2 q3 q4 q5 q6 q7 q8 q9 q10 q11 q12 k0 k1 k2 k3 k4 k5 k6 k7 k8 k9 k10 k11 k12 k13 p0 zf y1 y2 y1f y2f k2f k3f hLX
    generalize (W.setCell ⟨pb, 2, none⟩ (.int .i64 (c.names.length : Int))) = X at *
    obtain ⟨g0, h1, h2, g3, g4⟩ := put15n (N := W0.heap.size) (put13 HPXX.h0 (.slice r.aN c.names.length r.cN) (.slice r.aL c.lnames.length r.cL) (.int .i64 (c.names.length : Int)) (.slice none 0 0) (.slice r.aK c.links.length r.cK) (.slice r.aP c.pfx.length r.cP) (.slice r.aQ c.pols.length r.cQ) (.slice r.aD c.dems.length r.cD) (.int .i64 t0) (.int .i64 t1) (.int .i64 t2) (.int .i64 t3) (.int .i64 t4)) HPXX.h1 HPXX.h2 (u1 := .int .i64 0) (u2 := .int .i64 0) (by omega) HPXX.hb hbw rfl
    have hK := g3.2 D _ hD hKX rfl
    have hrF := hrX.keep (W' := (((((((((((((((X.setCell ⟨b0, 0, none⟩ (.slice r.aN c.names.length r.cN)).setCell ⟨b0, 1, none⟩ (.slice r.aL c.lnames.length r.cL)).setCell ⟨b0, 2, none⟩ (.int .i64 (c.names.length : Int))).setCell ⟨b0, 3, none⟩ (.slice none 0 0)).setCell ⟨b0, 4, none⟩ (.slice r.aK c.links.length r.cK)).setCell ⟨b0, 5, none⟩ (.slice r.aP c.pfx.length r.cP)).setCell ⟨b0, 6, none⟩ (.slice r.aQ c.pols.length r.cQ)).setCell ⟨b0, 7, none⟩ (.slice r.aD c.dems.length r.cD)).setCell ⟨b0, 8, none⟩ (.int .i64 t0)).setCell ⟨b0, 9, none⟩ (.int .i64 t1)).setCell ⟨b0, 10, none⟩ (.int .i64 t2)).setCell ⟨b0, 11, none⟩ (.int .i64 t3)).setCell ⟨b0, 12, none⟩ (.int .i64 t4)).setCell ⟨b1, 0, none⟩ (.int .i64 0)).setCell ⟨b2, 0, none⟩ (.int .i64 0))) (fun g q1 q2 => fin_keep (W := X) (g := g) (b0 := b0) (b1 := b1) (b2 := b2) (by omega))
    generalize (((((((((((((((X.setCell ⟨b0, 0, none⟩ (.slice r.aN c.names.length r.cN)).setCell ⟨b0, 1, none⟩ (.slice r.aL c.lnames.length r.cL)).setCell ⟨b0, 2, none⟩ (.int .i64 (c.names.length : Int))).setCell ⟨b0, 3, none⟩ (.slice none 0 0)).setCell ⟨b0, 4, none⟩ (.slice r.aK c.links.length r.cK)).setCell ⟨b0, 5, none⟩ (.slice r.aP c.pfx.length r.cP)).setCell ⟨b0, 6, none⟩ (.slice r.aQ c.pols.length r.cQ)).setCell ⟨b0, 7, none⟩ (.slice r.aD c.dems.length r.cD)).setCell ⟨b0, 8, none⟩ (.int .i64 t0)).setCell ⟨b0, 9, none⟩ (.int .i64 t1)).setCell ⟨b0, 10, none⟩ (.int .i64 t2)).setCell ⟨b0, 11, none⟩ (.int .i64 t3)).setCell ⟨b0, 12, none⟩ (.int .i64 t4)).setCell ⟨b1, 0, none⟩ (.int .i64 0)).setCell ⟨b2, 0, none⟩ (.int .i64 0)) = Wf at *
    replace hK : Wf.drew.heap[D]? = some (.deferred (some [])) := hK
    replace hrF : Rows B (rowsOf r c) Wf.drew := hrF.keep fun _ _ _ => rfl
    replace g4 : Below b0 w Wf.drew := g4.trans ⟨rfl, rfl, rfl, Nat.le_refl _, fun _ _ => rfl⟩
    replace g0 : Wf.drew.heap[b0]? = _ := g0
    replace h1 : Boxed Wf.drew b1 3 (.int .i64 0) := h1
    replace h2 : Boxed Wf.drew b2 34 (.int .i64 0) := h2
    generalize Wf.drew = Wd at *
    refine ⟨by simp, .inl ⟨_, _, rfl, run_takeDeferred hK, ?_⟩⟩
    have gg := (World.putObj_heap_other (o := .deferred none) (show b0 ≠ D by omega)).trans g0
    have e1 := (show Boxed _ b1 3 (.int .i64 0) from (World.putObj_heap_other (o := .deferred none) (show b1 ≠ D by omega)).trans h1).cell
    have e2 := (show Boxed _ b2 34 (.int .i64 0) from (World.putObj_heap_other (o := .deferred none) (show b2 ≠ D by omega)).trans h2).cell
    have z := Lib.cell_of_heap gg
    have z0 := z 0
    have z1 := z 1
    have z2 := z 2
    have z3 := z 3
    have z4 := z 4
    have z5 := z 5
    have z6 := z 6
    have z7 := z 7
    have z8 := z 8
    have z9 := z 9
    have z10 := z 10
    have z11 := z 11
    have z12 := z 12
    exact ⟨.tuple #[.agg #[.slice r.aN c.names.length r.cN, .slice r.aL c.lnames.length r.cL, .int .i64 (c.names.length : Int), .slice none 0 0, .slice r.aK c.links.length r.cK, .slice r.aP c.pfx.length r.cP, .slice r.aQ c.pols.length r.cQ, .slice r.aD c.dems.length r.cD, .int .i64 t0, .int .i64 t1, .int .i64 t2, .int .i64 t3, .int .i64 t4], .int .i64 0, .int .i64 0], by simp [results, Tryz.results5, go_sem, z0, z1, z2, z3, z4, z5, z6, z7, z8, z9, z10, z11, z12, e1, e2], by rw [HR.out]; exact ⟨⟨r, by rw [HCV.out], (hrF.put (.deferred none) hK rfl).weak (show w.heap.size ≤ B by have := HEB.out; omega), HST.out.ll, HST.out.lim⟩, HEB.out ▸ g4.trans (belowK_b (w := w) hbw _ D _ _ (by have := HEB.out; omega) hK rfl rfl)⟩⟩
   | true =>
    rw [hov] at HC
    have HCV : Hid (confV r c = .agg #[.slice r.aN c.names.length r.cN, .slice r.aL c.lnames.length r.cL, .int .i64 (c.names.length : Int), .slice r.aO c.ov.length r.cO, .slice r.aK c.links.length r.cK, .slice r.aP c.pfx.length r.cP, .slice r.aQ c.pols.length r.cQ, .slice r.aD c.dems.length r.cD, .int .i64 t0, .int .i64 t1, .int .i64 t2, .int .i64 t3, .int .i64 t4]) := Lib.hid (by unfold confV; rw [if_pos (of_decide_eq_true hov), ht0, ht1, ht2, ht3, ht4])
    clear hov ht0 ht1 ht2 ht3 ht4
    gi_wp2_with (refine ⟨trivial, ?_⟩; gi_at_call 13; refine (callsIn_wide.2 (HC.out (W.setCell ⟨pb, 2, none⟩ (.int .i64 (c.names.length : Int))).drew (fun k hk => Below.heap_setCell W ⟨pb, 2, none⟩ (.int .i64 (c.names.length : Int)) k (by simpa using hk)))).mono ?_; rintro e w9 ⟨rfl, rfl⟩)
    gi_region
    gi_wp2
    have hLX := (show LoN pb W ((W.setCell ⟨pb, 2, none⟩ (.int .i64 (c.names.length : Int))).setCell ⟨pb, 3, none⟩ (.slice r.aO c.ov.length r.cO)) from LoP.trans (LoP.setC HST.out.blk (.inl (by simp)) (Nat.le_refl _) _) (LoP.setC (heap_setCell_same W pb 2 _ _ _ HST.out.blk) (.inl (by simp)) (by simp) _))
    have HPXX := HPX.out.lo (hLX.toM (B := B) (Y := [pb]) HST.out.sz (by simp)) (by omega) (by simp; omega) (by simp; omega) hbw
    have hKX := (kf_lo (N := W0.heap.size) (hLX.toM (B := B) (Y := [pb]) HST.out.sz (by simp)) (by omega) (by simp; omega)).2 D _ hD HKD.out rfl
    have hrX := HST.out.rows.keep (W' := ((W.setCell ⟨pb, 2, none⟩ (.int .i64 (c.names.length : Int))).setCell ⟨pb, 3, none⟩ (.slice r.aO c.ov.length r.cO))) fun g q1 q2 => hLX.blk g q2 (by have := HST.out.bl.1.1; simp; omega)
    clear q0 q1 q2 q3 q4 q5 q6 q7 q8 q9 q10 q11 q12 k0 k1 k2 k3 k4 k5 k6 k7 k8 k9 k10 k11 k12 k13 p0 zf y1 y2 y1f y2f k2f k3f hLX
    generalize ((W.setCell ⟨pb, 2, none⟩ (.int .i64 (c.names.length : Int))).setCell ⟨pb, 3, none⟩ (.slice r.aO c.ov.length r.cO)) = X at *
    obtain ⟨g0, h1, h2, g3, g4⟩ := put15n (N := W0.heap.size) (put13 HPXX.h0 (.slice r.aN c.names.length r.cN) (.slice r.aL c.lnames.length r.cL) (.int .i64 (c.names.length : Int)) (.slice r.aO c.ov.length r.cO) (.slice r.aK c.links.length r.cK) (.slice r.aP c.pfx.length r.cP) (.slice r.aQ c.pols.length r.cQ) (.slice r.aD c.dems.length r.cD) (.int .i64 t0) (.int .i64 t1) (.int .i64 t2) (.int .i64 t3) (.int .i64 t4)) HPXX.h1 HPXX.h2 (u1 := .int .i64 0) (u2 := .int .i64 0) (by omega) HPXX.hb hbw rfl
    have hK := g3.2 D _ hD hKX rfl
    have hrF := hrX.keep (W' := (((((((((((((((X.setCell ⟨b0, 0, none⟩ (.slice r.aN c.names.length r.cN)).setCell ⟨b0, 1, none⟩ (.slice r.aL c.lnames.length r.cL)).setCell ⟨b0, 2, none⟩ (.int .i64 (c.names.length : Int))).setCell ⟨b0, 3, none⟩ (.slice r.aO c.ov.length r.cO)).setCell ⟨b0, 4, none⟩ (.slice r.aK c.links.length r.cK)).setCell ⟨b0, 5, none⟩ (.slice r.aP c.pfx.length r.cP)).setCell ⟨b0, 6, none⟩ (.slice r.aQ c.pols.length r.cQ)).setCell ⟨b0, 7, none⟩ (.slice r.aD c.dems.length r.cD)).setCell ⟨b0, 8, none⟩ (.int .i64 t0)).setCell ⟨b0, 9, none⟩ (.int .i64 t1)).setCell ⟨b0, 10, none⟩ (.int .i64 t2)).setCell ⟨b0, 11, none⟩ (.int .i64 t3)).setCell ⟨b0, 12, none⟩ (.int .i64 t4)).setCell ⟨b1, 0, none⟩ (.int .i64 0)).setCell ⟨b2, 0, none⟩ (.int .i64 0))) (fun g q1 q2 => fin_keep (W := X) (g := g) (b0 := b0) (b1 := b1) (b2 := b2) (by omega))
    generalize (((((((((((((((X.setCell ⟨b0, 0, none⟩ (.slice r.aN c.names.length r.cN)).setCell ⟨b0, 1, none⟩ (.slice r.aL c.lnames.length r.cL)).setCell ⟨b0, 2, none⟩ (.int .i64 (c.names.length : Int))).setCell ⟨b0, 3, none⟩ (.slice r.aO c.ov.length r.cO)).setCell ⟨b0, 4, none⟩ (.slice r.aK c.links.length r.cK)).setCell ⟨b0, 5, none⟩ (.slice r.aP c.pfx.length r.cP)).setCell ⟨b0, 6, none⟩ (.slice r.aQ c.pols.length r.cQ)).setCell ⟨b0, 7, none⟩ (.slice r.aD c.dems.length r.cD)).setCell ⟨b0, 8, none⟩ (.int .i64 t0)).setCell ⟨b0, 9, none⟩ (.int .i64 t1)).setCell ⟨b0, 10, none⟩ (.int .i64 t2)).setCell ⟨b0, 11, none⟩ (.int .i64 t3)).setCell ⟨b0, 12, none⟩ (.int .i64 t4)).setCell ⟨b1, 0, none⟩ (.int .i64 0)).setCell ⟨b2, 0, none⟩ (.int .i64 0)) = Wf at *
    replace hK : Wf.drew.drew.heap[D]? = some (.deferred (some [])) := hK
    replace hrF : Rows B (rowsOf r c) Wf.drew.drew := hrF.keep fun _ _ _ => rfl
    replace g4 : Below b0 w Wf.drew.drew := g4.trans ⟨rfl, rfl, rfl, Nat.le_refl _, fun _ _ => rfl⟩
    replace g0 : Wf.drew.drew.heap[b0]? = _ := g0
    replace h1 : Boxed Wf.drew.drew b1 3 (.int .i64 0) := h1
    replace h2 : Boxed Wf.drew.drew b2 34 (.int .i64 0) := h2
    generalize Wf.drew.drew = Wd at *
    refine ⟨by simp, .inl ⟨_, _, rfl, run_takeDeferred hK, ?_⟩⟩
    have gg := (World.putObj_heap_other (o := .deferred none) (show b0 ≠ D by omega)).trans g0
    have e1 := (show Boxed _ b1 3 (.int .i64 0) from (World.putObj_heap_other (o := .deferred none) (show b1 ≠ D by omega)).trans h1).cell
    have e2 := (show Boxed _ b2 34 (.int .i64 0) from (World.putObj_heap_other (o := .deferred none) (show b2 ≠ D by omega)).trans h2).cell
    have z := Lib.cell_of_heap gg
    have z0 := z 0
    have z1 := z 1
    have z2 := z 2
    have z3 := z 3
    have z4 := z 4
    have z5 := z 5
    have z6 := z 6
    have z7 := z 7
    have z8 := z 8
    have z9 := z 9
    have z10 := z 10
    have z11 := z 11
    have z12 := z 12
    exact ⟨.tuple #[.agg #[.slice r.aN c.names.length r.cN, .slice r.aL c.lnames.length r.cL, .int .i64 (c.names.length : Int), .slice r.aO c.ov.length r.cO, .slice r.aK c.links.length r.cK, .slice r.aP c.pfx.length r.cP, .slice r.aQ c.pols.length r.cQ, .slice r.aD c.dems.length r.cD, .int .i64 t0, .int .i64 t1, .int .i64 t2, .int .i64 t3, .int .i64 t4], .int .i64 0, .int .i64 0], by simp [results, Tryz.results5, go_sem, z0, z1, z2, z3, z4, z5, z6, z7, z8, z9, z10, z11, z12, e1, e2], by rw [HR.out]; exact ⟨⟨r, by rw [HCV.out], (hrF.put (.deferred none) hK rfl).weak (show w.heap.size ≤ B by have := HEB.out; omega), HST.out.ll, HST.out.lim⟩, HEB.out ▸ g4.trans (belowK_b (w := w) hbw _ D _ _ (by have := HEB.out; omega) hK rfl rfl)⟩⟩
 case stop =>
  rintro D c k W hD hk ⟨rfl, e, hVe, h0, h1, h2, hB⟩ hK
  have HR : Hid (RES = .error (k, e)) := Lib.hid (by rw [HRES.out, hVe]; rfl)
  clear hVe
  gi_wp2
  refine ⟨by simp, .inl ⟨_, _, rfl, run_takeDeferred hK, ?_⟩⟩
  have g0 : (W.putObj D (.deferred none)).heap[b0]? = some (.cells zeroK 33 (0, 0)) := (World.putObj_heap_other (by omega)).trans h0
  have e1 := (show Boxed (W.putObj D (.deferred none)) b1 3 (.int .i64 (k : Int)) from (World.putObj_heap_other (by omega)).trans h1).cell
  have e2 := (show Boxed (W.putObj D (.deferred none)) b2 34 (.int .i64 e) from (World.putObj_heap_other (by omega)).trans h2).cell
  have z := Lib.cell_of_heap g0
  have z0 := z 0
  have z1 := z 1
  have z2 := z 2
  have z3 := z 3
  have z4 := z 4
  have z5 := z 5
  have z6 := z 6
  have z7 := z 7
  have z8 := z 8
  have z9 := z 9
  have z10 := z 10
  have z11 := z 11
  have z12 := z 12
  simp only [zeroK] at z0 z1 z2 z3 z4 z5 z6 z7 z8 z9 z10 z11 z12
  exact ⟨.tuple #[.agg zeroK, .int .i64 (k : Int), .int .i64 e], by simp [results, Tryz.results5, go_sem, zeroK, z0, z1, z2, z3, z4, z5, z6, z7, z8, z9, z10, z11, z12, e1, e2], by rw [HR.out]; exact ⟨rfl, HEB.out ▸ hB.trans (belowK_b (w := w) hbw _ D _ _ (by have := HEB.out; omega) hK rfl rfl)⟩⟩
theorem config_Parse (s : List UInt8) (hs : s.length ≤ 50000) (hwd : ∀ l ∈ splitK 10 [] s, (wordsS l).length ≤ 10000 ∧ ∀ x ∈ wordsS l, x.length ≤ 10000) (w : World) (hE : Errs w) (ht : Tab w.heap.size w) :
  Calls Tryz.prog 5 #[.string ⟨s.toArray⟩] w (RetCf w (parseC s)) :=
 config_ParseL s (by omega) (by have := splitK_len 10 [] s; omega) (fun l hl => by have := splitK_mem hl; omega) hwd w hE ht
end Go.Proofs.YtfimacgmciogmaaGreatDoor
