/-
  What ConfigSpaces needs: parsing of both texts, and the new text in a builder.
-/
import Derived.Test.YtpofbhaipeiegaaGreatDoorCfgSq
import Derived.Test.YtpofbhaipeiegaaGreatDoorCfgSm
import Derived.Test.YtpofbhaipeiegaaGreatDoorBuilder
import Derived.Test.YtpofbhaipeiegaaGreatDoorText
namespace Go.Proofs.YtpofbhaipeiegaaGreatDoor
set_option linter.unusedSimpArgs false
set_option linter.unusedVariables false
open Go.RowKit Go.Shelf Go.Sort

theorem own_rd {w : World} {B : Nat} {E : TypeId} {s n c : Nat} {A : Option Addr} {xs : List Value} (h : w.ownsRow B E s (.slice A n c) n xs) : Rd w A xs ∧ n ≤ maxLen := by
  have h0 := h
  rcases h with ⟨hl, ⟨e, rfl⟩ | ⟨g, cap, cur, e, hb, hg, hnc, hcm, hs, ht⟩⟩
  · exact ⟨.inl (List.eq_nil_of_length_eq_zero (by simpa using hl)), Nat.zero_le _⟩
  · injection e with e1 _ e2
    subst e1
    refine ⟨.inr ⟨g, 0, rfl, fun j u hu => ?_⟩, Nat.le_trans hnc hcm⟩
    have hj : j < n * s := by rw [← hl]; exact (List.getElem?_eq_some_iff.1 hu).1
    rw [Nat.zero_add, h0.cellAt j hj]; exact hu
theorem rdl_of {w : World} {A : Option Addr} {ls : List Lnk} (h : Rd w A (ls.flatMap lkV)) : RdL w A ls := by
  cases ls with
  | nil => exact .inl rfl
  | cons x r =>
    obtain ⟨b, o, hA, _⟩ := h.flat 7 (fun _ => rfl) (by decide) (k := 0) (by simp)
    refine .inr ⟨b, o, hA, fun k l hl => ?_⟩
    obtain ⟨hk, hl2⟩ := List.getElem?_eq_some_iff.1 hl
    obtain ⟨b', o', hA', hc⟩ := h.flat 7 (fun _ => rfl) (by decide) (k := k) hk
    rw [hA] at hA'
    injection hA' with e
    injection e with e1 e2
    subst e1 e2
    rw [hl2] at hc
    exact ⟨hc 0 _ rfl, hc 1 _ rfl, hc 2 _ rfl, hc 3 _ rfl, hc 4 _ rfl, hc 5 _ rfl, hc 6 _ rfl⟩
def ovC (c : Cf) : Cf := { c with ov := if true ∈ c.ov then c.ov else [] }
theorem cat_of {B : Nat} {r : Rws} {c : Cf} {W : World} (h : Rows B (rowsOf r c) W) (hll : r.ls.length = c.pols.length) : ∃ r', CAt W r' (ovC c) ∧ confV r c = .agg (cfCells (c.names.length : Int) r' (ovC c)) := by
  have hn := own_rd (h.own ⟨9, 1, r.aN, r.cN, c.names.length, c.names.map strW⟩ (by simp [rowsOf]))
  have hl := own_rd (h.own ⟨9, 1, r.aL, r.cL, c.lnames.length, c.lnames.map strW⟩ (by simp [rowsOf]))
  have hk := own_rd (h.own ⟨64, 7, r.aK, r.cK, c.links.length, c.links.flatMap lkV⟩ (by simp [rowsOf]))
  have hp := own_rd (h.own ⟨92, 3, r.aP, r.cP, c.pfx.length, c.pfx.flatMap pfV⟩ (by simp [rowsOf]))
  have hq := own_rd (h.own ⟨95, 3, r.aQ, r.cQ, c.pols.length, (c.pols.zip r.ls).flatMap plV⟩ (by simp [rowsOf]))
  have hd := own_rd (h.own ⟨99, 4, r.aD, r.cD, c.dems.length, c.dems.flatMap dmV⟩ (by simp [rowsOf]))
  have ho := own_rd (h.own ⟨4, 1, r.aO, r.cO, c.ov.length, c.ov.map Value.bool⟩ (by simp [rowsOf]))
  have hs : ∀ x ∈ c.pols.zip r.ls, Rd W x.2.1 (x.1.2.2.flatMap sgV) ∧ x.1.2.2.length ≤ maxLen := fun x hx => own_rd (h.own ⟨97, 2, x.2.1, x.2.2, x.1.2.2.length, x.1.2.2.flatMap sgV⟩ (List.mem_append.2 (.inr (List.mem_append.2 (.inr (List.mem_map.2 ⟨x, hx, rfl⟩))))))
  by_cases hb : true ∈ c.ov
  · refine ⟨r, ⟨hn.1, hl.1, rdl_of hk.1, ?_, hp.1, hq.1, hs, hd.1, hll⟩, ?_⟩
    · simp only [ovC, if_pos hb]; exact ho.1
    · simp only [confV, cfCells, ovC, if_pos hb]
  · refine ⟨{ r with aO := none, cO := 0 }, ⟨hn.1, hl.1, rdl_of hk.1, ?_, hp.1, hq.1, hs, hd.1, hll⟩, ?_⟩
    · simp only [ovC, if_neg hb]; exact .inl rfl
    · simp only [confV, cfCells, ovC, if_neg hb, List.length_nil]
/-- A call that returns a configuration, a line and an error. -/
def RetK (w : World) (nn : Int) (c : Cf) (n : Nat) (x : Int) (e : Ending) (w' : World) : Prop :=
  (∃ r, e = .returned (.tuple #[.agg (cfCells nn r c), .int .i64 (n : Int), .int .i64 x]) ∧ CAt w' r c ∧ SLim c) ∧ Below w.heap.size w w'
def cz : Cf := { c0 with tm := [0, 0, 0, 0, 0] }
def resK : Except (Nat × Int) Cf → Int × Cf × Nat × Int
  | .ok c => ((c.names.length : Int), ovC c, 0, 0)
  | .error p => (0, cz, p.1, p.2)
theorem ovC_len (c : Cf) : (ovC c).ov.length ≤ c.ov.length := by
  unfold ovC
  split
  · exact Nat.le_refl _
  · exact Nat.zero_le _
theorem RetCf.k {w w' : World} {res : Except (Nat × Int) Cf} {e : Ending} (h : RetCf w res e w') : RetK w (resK res).1 (resK res).2.1 (resK res).2.2.1 (resK res).2.2.2 e w' := by
  obtain ⟨h1, h2⟩ := h
  refine ⟨?_, h2⟩
  cases res with
  | ok c =>
    obtain ⟨r, rfl, hr, hll, hlim⟩ := h1
    obtain ⟨r', hc, he⟩ := cat_of hr hll
    have := ovC_len c
    have a := hlim.names; have b := hlim.lnames; have d := hlim.links; have f := hlim.ov; have g := hlim.pfx; have i := hlim.pols; have j := hlim.dems
    exact ⟨r', by rw [he]; rfl, hc, ⟨by show c.names.length ≤ _; omega, by show c.lnames.length ≤ _; omega, by show c.links.length ≤ _; omega, by show (ovC c).ov.length ≤ _; omega, g, by show c.pols.length ≤ _; omega, by show c.dems.length ≤ _; omega⟩⟩
  | error p =>
    obtain ⟨n, x⟩ := p
    simp only at h1
    refine ⟨r0, by rw [h1]; rfl, ⟨.inl rfl, .inl rfl, .inl rfl, .inl rfl, .inl rfl, .inl rfl, fun x hx => by simp [resK, cz, c0] at hx, .inl rfl, rfl⟩, ⟨?_, ?_, ?_, ?_, ?_, ?_, ?_⟩⟩ <;> exact Nat.zero_le _
theorem spaces_Parse1 (s : List UInt8) (hs : s.length ≤ 3000) (w : World) (hE : Errs w) (ht : Tab w.heap.size w) : Calls Tryz.prog 11 #[.string ⟨s.toArray⟩] w (RetK w (resK (parseC s)).1 (resK (parseC s)).2.1 (resK (parseC s)).2.2.1 (resK (parseC s)).2.2.2) :=
  (config_ParseS s (by omega) w hE ht).mono fun _ _ h => h.k
theorem spaces_Parse2 (s : List UInt8) (ks : List Nat) (hs : s.length ≤ 3000) (hk : ks.length ≤ 100) (w : World) (hE : Errs w) (ht : Tab w.heap.size w) : Calls Tryz.prog 11 #[.string ⟨(unlines (spL ks (splitK 10 [] s))).toArray⟩] w (RetK w (resK (parseC s)).1 (resK (parseC s)).2.1 ((resK (parseC s)).2.2.1 + addN ks (resK (parseC s)).2.2.1) (resK (parseC s)).2.2.2) := by
  have h1 := unlines_len (splitK 10 [] s) ks
  have h2 := splitK_sum s
  have hno := splitK_no 10 _ s (Nat.le_refl _)
  have h3 := config_Parse (unlines (spL ks (splitK 10 [] s))) (by omega) (fun l hl => by
    rw [splitK_unlines _ (spL_no10 _ ks hno)] at hl
    have hl2 : l.length ≤ 9020 := by
      rcases List.mem_append.1 hl with hl | hl
      · exact Nat.le_trans (spL_len _ ks 3000 (fun p hp => Nat.le_trans (splitK_mem hp) hs) l hl) (by omega)
      · simp at hl; subst hl; simp
    have h4 := wordsS_len l
    exact ⟨by omega, fun x hx => by have := h4.2 x hx; omega⟩) w hE ht
  rw [spaces_plain] at h3
  cases hp : parseC s with
  | ok d => rw [hp] at h3; exact h3.mono fun _ _ h => h.k
  | error p => rw [hp] at h3; exact h3.mono fun _ _ h => h.k

theorem resK_line (s : List UInt8) : (resK (parseC s)).2.2.1 ≤ (splitK 10 [] s).length := by
  rw [parseC_eq]
  cases hp : parseL (splitK 10 [] s) 0 c0 with
  | ok d =>
    simp only [finC]
    split <;> exact Nat.zero_le _
  | error p =>
    obtain ⟨m, x⟩ := p
    have := (parseL_err _ 0 c0 m x hp).2.1
    show m ≤ _
    omega
/-- The new text in its builder (block B), the lines in the block behind it. -/
structure SP (wb : World) (B : Nat) (ps : List (List UInt8)) (acc : List UInt8) (W : World) : Prop where
  e : wb.heap.size = B
  b : Below B wb W
  x : Lib.IsBuilder 48 5 B B (Lib.byteCells acc) W
  r : W.heap[B + 1]? = some (.cells (ps.map fun l => Value.string ⟨l.toArray⟩).toArray 9 (0, 0))
theorem SP.up {wb : World} {B : Nat} {ps : List (List UInt8)} {acc : List UInt8} {W W' : World} (h : SP wb B ps acc W) (hb : Below W.heap.size W W') : SP wb B ps acc W' := ⟨h.e, below_next h.b hb (by rw [h.e]; exact Nat.le_refl _), IsBuilder.up h.x hb, (hb.block _ (lt_of_heap h.r)).trans h.r⟩
theorem SP.size {wb : World} {B : Nat} {ps : List (List UInt8)} {acc : List UInt8} {W : World} (h : SP wb B ps acc W) : B ≤ W.heap.size := by rw [← h.e]; exact h.b.size
theorem SP.write {wb : World} {B : Nat} {ps : List (List UInt8)} {acc : List UInt8} {W : World} (h : SP wb B ps acc W) (t : List UInt8) (hl : acc.length + t.length ≤ 1000000) :
    Calls Tryz.prog 14 #[.pointer (some ⟨B, 0, none⟩), .string ⟨t.toArray⟩] W fun e W' => e = .returned (.tuple #[.int .i64 (t.length : Int), .nilIface]) ∧ SP wb B ps (acc ++ t) W' := by
  have hss : (⟨t.toArray⟩ : ByteArray).size = t.length := by simp [ByteArray.size]
  refine (builder_WriteString B B _ ⟨t.toArray⟩ W h.x (by rw [Lib.byteCells_length, hss]; omega) h.size).mono ?_
  rintro e W' ⟨rfl, h1, h2, h3⟩
  rw [Lib.strCells_eq, ← Lib.byteCells_append] at h1
  exact ⟨by rw [hss], ⟨h.e, h.b.trans h2, h1, h3 _ _ _ _ h.r (by decide) (by decide)⟩⟩
theorem SP.line {wb : World} {B : Nat} {ps : List (List UInt8)} {acc : List UInt8} {W : World} (h : SP wb B ps acc W) {k : Nat} (hk : k < ps.length) : W.cell? ⟨B + 1, k, none⟩ = some (.string ⟨ps[k].toArray⟩) := by
  rw [Lib.cell_of_heap h.r]
  simp [hk]
theorem SP.text {wb : World} {B : Nat} {ps : List (List UInt8)} {acc : List UInt8} {W : World} (h : SP wb B ps acc W) :
    Calls Tryz.prog 16 #[.pointer (some ⟨B, 0, none⟩)] W fun e W' => e = .returned (.string ⟨acc.toArray⟩) ∧ Below wb.heap.size wb W' :=
  (Tryz.Builder_String_any B B acc W h.x h.size).mono fun e W' hh => ⟨hh.1, by rw [h.e]; exact h.b.trans hh.2⟩
theorem SP.start (w2 : World) (o : Obj) (ps : List (List UInt8)) : SP (w2.alloc o) (w2.heap.size + 1) ps [] (((w2.alloc o).alloc (.cells #[.pointer none, .slice none 0 0] 48)).alloc (.cells (ps.map fun l => Value.string ⟨l.toArray⟩).toArray 9)) := by
  have e : (w2.alloc o).heap.size = w2.heap.size + 1 := by simp
  have hb : Below (w2.alloc o).heap.size (w2.alloc o) ((w2.alloc o).alloc (.cells #[.pointer none, .slice none 0 0] 48)) := below_box _ _
  have h0 := heap_alloc_new (w2.alloc o) (.cells #[.pointer none, .slice none 0 0] 48)
  rw [e] at hb h0
  refine ⟨e, below_next hb (below_box _ _) (by rw [e]; exact Nat.le_refl _), ?_, ?_⟩
  · refine IsBuilder.up (.inl ⟨Nat.le_refl _, _, h0, World.ownsRow_nil _ _ _ _, by simp [Value.ownBlock]⟩) (below_box _ _)
  · have := heap_alloc_new ((w2.alloc o).alloc (.cells #[.pointer none, .slice none 0 0] 48)) (.cells (ps.map fun l => Value.string ⟨l.toArray⟩).toArray 9)
    simpa using this
theorem sp_step {acc T : List UInt8} {kn : List Nat} {ps : List (List UInt8)} {k : Nat} {l : List UInt8} (h : acc ++ unlines (spL (kn.drop k) (ps.drop k)) = T) (hd : ps.drop k = l :: ps.drop (k + 1)) :
    acc ++ ((if (kn.getD k 0).testBit 0 then noiL ++ [10] else []) ++ (spcLine (kn.getD k 0) l ++ [10])) ++ unlines (spL (kn.drop (k + 1)) (ps.drop (k + 1))) = T := by
  rw [← h, hd, spL, unlines_app, unlines]
  have h1 : (kn.drop k).headD 0 = kn.getD k 0 := by simp [List.headD_eq_head?_getD, List.getD_eq_getElem?_getD]
  have h2 : (kn.drop k).tail = kn.drop (k + 1) := by simp
  rw [h1, h2]
  by_cases hb : (kn.getD k 0).testBit 0 = true
  · rw [if_pos hb, if_pos hb]; simp [unlines]
  · rw [if_neg hb, if_neg hb]; simp [unlines]
theorem add_step {a N n k : Nat} {kn : List Nat} (h : a + addN (kn.drop k) (n - k) = N) : (a + if (kn.getD k 0).testBit 0 = true ∧ k < n then 1 else 0) + addN (kn.drop (k + 1)) (n - (k + 1)) = N := by
  by_cases hk : k < n
  · rw [show n - k = (n - (k + 1)) + 1 by omega, addN_succ] at h
    have h1 : (kn.drop k).headD 0 = kn.getD k 0 := by simp [List.headD_eq_head?_getD, List.getD_eq_getElem?_getD]
    have h2 : (kn.drop k).tail = kn.drop (k + 1) := by simp
    rw [h1, h2] at h
    by_cases hb : (kn.getD k 0).testBit 0 = true
    · rw [if_pos hb] at h; rw [if_pos ⟨hb, hk⟩]; omega
    · rw [if_neg hb] at h; rw [if_neg (fun e => hb e.1)]; omega
  · have e1 : n - k = 0 := by omega
    have e2 : n - (k + 1) = 0 := by omega
    rw [e1] at h
    rw [if_neg (fun e => hk e.2), e2]
    simp [addN] at h ⊢
    exact h
theorem bits_all : ((List.range 256).all fun n => (bits .and .u8 (n : Int) 1 == 1) == n.testBit 0 && (bits .and .u8 (n : Int) 2 == 2) == n.testBit 1 && (bits .and .u8 (n : Int) 4 == 4) == n.testBit 2) = true := by kernel_rfl
theorem bits_at {x : Int} (h : 0 ≤ x ∧ x ≤ 255) : (bits .and .u8 x 1 == 1) = x.toNat.testBit 0 ∧ (bits .and .u8 x 2 == 2) = x.toNat.testBit 1 ∧ (bits .and .u8 x 4 == 4) = x.toNat.testBit 2 := by
  have := List.all_eq_true.1 bits_all x.toNat (by simp; omega)
  rw [show ((x.toNat : Nat) : Int) = x by omega] at this
  simpa [and_assoc] using this

end Go.Proofs.YtpofbhaipeiegaaGreatDoor
