/-
  strings.FieldsSeq: what the iterator yields.
-/
import Derived.Test.YtfbloolloifndaaDoorIter
import Derived.Test.YtfbloolloifndaaDoorSplit
import Derived.Test.YtfbloolloifndaaDoorShelf
import Derived.Lib.Space
import Derived.Lib.RuneCount
import Derived.Lib.RuneCountTail
import Derived.Laws.RangeAny
import Derived.Shelf.Unicode.DecodeLastEight
namespace Go.Proofs.YtfbloolloifndaaDoor
set_option linter.unusedSimpArgs false
set_option linter.unusedVariables false
open Go.RowKit Go.Shelf
attribute [local go_sem] Oper.semAt_some

/-- Is there white space at a place, and how many bytes has it? -/
def spAt (s : List UInt8) (i : Nat) : Bool × Nat :=
  match s[i]? with
  | some b => if b.toNat < 128 then (Lib.isSp b, 1) else (Lib.isSpaceR (Utf8.decode ⟨s.toArray⟩ i).1, (Utf8.decode ⟨s.toArray⟩ i).2)
  | none => (false, 1)
def fsG (s : List UInt8) : Nat → Nat → Option Nat → List (List UInt8)
  | 0, _, _ => []
  | f + 1, i, st =>
    if i < s.length then
      (if (spAt s i).1 = true then (match st with | some a => ((s.drop a).take (i - a)) :: fsG s f (i + (spAt s i).2) none | none => fsG s f (i + (spAt s i).2) none)
       else fsG s f (i + (spAt s i).2) (some (st.getD i)))
    else (match st with | some a => [s.drop a] | none => [])
/-- The words of a text. -/
def fieldsS (s : List UInt8) : List (List UInt8) := fsG s (s.length + 1) 0 none
theorem fsG_end_n {s : List UInt8} {f i : Nat} (h : ¬ i < s.length) : fsG s (f + 1) i none = [] := by rw [fsG, if_neg h]
theorem fsG_end_s {s : List UInt8} {f i a : Nat} (h : ¬ i < s.length) : fsG s (f + 1) i (some a) = [s.drop a] := by rw [fsG, if_neg h]
theorem fsG_sp_n {s : List UInt8} {f i : Nat} (h : i < s.length) (hp : (spAt s i).1 = true) : fsG s (f + 1) i none = fsG s f (i + (spAt s i).2) none := by rw [fsG, if_pos h, if_pos hp]
theorem fsG_sp_s {s : List UInt8} {f i a : Nat} (h : i < s.length) (hp : (spAt s i).1 = true) : fsG s (f + 1) i (some a) = ((s.drop a).take (i - a)) :: fsG s f (i + (spAt s i).2) none := by rw [fsG, if_pos h, if_pos hp]
theorem fsG_no {s : List UInt8} {f i : Nat} {st : Option Nat} (h : i < s.length) (hp : (spAt s i).1 = false) : fsG s (f + 1) i st = fsG s f (i + (spAt s i).2) (some (st.getD i)) := by
  cases st <;> rw [fsG, if_pos h, if_neg (by rw [hp]; exact Bool.false_ne_true)]
theorem spAt_asc {s : List UInt8} {i : Nat} {b : UInt8} (h : s[i]? = some b) (hb : b.toNat < 128) : spAt s i = (Lib.isSp b, 1) := by simp [spAt, h, hb]
theorem spAt_hi {s : List UInt8} {i : Nat} {b : UInt8} (h : s[i]? = some b) (hb : ¬ b.toNat < 128) : spAt s i = (Lib.isSpaceR (Utf8.decode ⟨s.toArray⟩ i).1, (Utf8.decode ⟨s.toArray⟩ i).2) := by simp [spAt, h, hb]
theorem dec_tail (s : List UInt8) (i : Nat) (hi : i < s.length) : Lib.decodeGo ((⟨s.toArray⟩ : ByteArray).extract i s.length) = Utf8.decode ⟨s.toArray⟩ i := by
  have h1 : ((⟨s.toArray⟩ : ByteArray).extract i s.length).size ≠ 0 := by simp [ByteArray.size]; omega
  unfold Lib.decodeGo
  rw [if_neg h1]
  have := Lib.tail_decode (⟨s.toArray⟩ : ByteArray) i 0
  rw [Nat.add_zero] at this
  rw [← this]
  rfl
theorem dec_width (s : List UInt8) (i : Nat) (hi : i < s.length) : 1 ≤ (Utf8.decode ⟨s.toArray⟩ i).2 ∧ i + (Utf8.decode ⟨s.toArray⟩ i).2 ≤ s.length := by
  refine ⟨Lib.decode_width_pos _ _ (by simpa [ByteArray.size] using hi), ?_⟩
  have h1 := Lib.decodeGo_le_size ((⟨s.toArray⟩ : ByteArray).extract i s.length)
  rw [dec_tail s i hi] at h1
  have : ((⟨s.toArray⟩ : ByteArray).extract i s.length).size = s.length - i := by simp [ByteArray.size]
  omega
/-- The tables, in every world that holds the blocks below n0. -/
def TabsAt (w' : World) : Prop := (∀ c : Nat, c < 256 → w'.cell? ⟨0, c, none⟩ = some (.int .u8 (Lib.asciiSpaceTab.getD c 0))) ∧ Lib.WhiteTab 1 w' ∧ Lib.Utf8Tabs 3 4 w'
def FT (n0 : Nat) (w : World) : Prop := ∀ w' : World, (∀ k, k < n0 → w'.heap[k]? = w.heap[k]?) → TabsAt w'
theorem FT.up {n0 : Nat} {w w' : World} (h : FT n0 w) (hk : ∀ k, k < n0 → w'.heap[k]? = w.heap[k]?) : FT n0 w' := fun W hW => h W fun k hkn => (hW k hkn).trans (hk k hkn)
theorem FT.below {n0 : Nat} {w w' : World} (h : FT n0 w) (hb : Below w.heap.size w w') (hn : n0 ≤ w.heap.size) : FT n0 w' := h.up fun k hk => hb.block k (by omega)
theorem asc_tab (c : Nat) (hc : c < 256) : Lib.asciiSpaceTab.getD c 0 = if Lib.isSp (UInt8.ofNat c) = true then 1 else 0 := by
  simp only [Lib.asciiSpaceTab]
  rw [List.getD_eq_getElem?_getD, List.getElem?_map, List.getElem?_range hc]
  rfl
/-- What stands between two rounds. -/
def KpF (n0 Bs : Nat) (W W' : World) : Prop := (∀ k, k < n0 → W'.heap[k]? = W.heap[k]?) ∧ W'.heap[Bs]? = W.heap[Bs]? ∧ W.heap.size ≤ W'.heap.size
theorem KpF.trans {n0 Bs : Nat} {X Y Z : World} (h : KpF n0 Bs X Y) (g : KpF n0 Bs Y Z) : KpF n0 Bs X Z := ⟨fun k hk => (g.1 k hk).trans (h.1 k hk), g.2.1.trans h.2.1, Nat.le_trans h.2.2 g.2.2⟩

def stV : Option Nat → Value
  | none => .int .i64 (-1)
  | some a => .int .i64 (a : Int)
/-- Where the iterator stands. -/
structure FsI (s : List UInt8) (n0 Bs : Nat) (J : Nat → World → Prop) (k i f : Nat) (st : Option Nat) (wr : World) : Prop where
  il : i ≤ s.length
  fl : s.length < i + f
  sa : ∀ a, st = some a → a ≤ i
  dr : (fieldsS s).drop k = fsG s f i st
  kl : k ≤ (fieldsS s).length
  j : J k wr
  b : Boxed wr Bs 9 (.string ⟨s.toArray⟩)
  t : FT n0 wr
  n : n0 ≤ wr.heap.size
theorem FsI.tabs {s : List UInt8} {n0 Bs : Nat} {J : Nat → World → Prop} {k i f : Nat} {st : Option Nat} {wr : World} (h : FsI s n0 Bs J k i f st wr) : TabsAt wr := h.t wr fun _ _ => rfl
theorem drop_end {α : Type} {l : List α} {k : Nat} (h : l.drop k = []) (hk : k ≤ l.length) : l.length = k := by
  have := congrArg List.length h
  rw [List.length_drop] at this; simp at this; omega
/-- The next place, where no word ends. -/
theorem FsI.next {s : List UInt8} {n0 Bs : Nat} {J : Nat → World → Prop} {k i f : Nat} {st : Option Nat} {wr w' : World} (h : FsI s n0 Bs J k i f st wr) (hJ : Steady Bs J) (hi : i < s.length) {st' : Option Nat} {m : Nat} (hm : (spAt s i).2 = m) (hm1 : 1 ≤ m) (hm2 : i + m ≤ s.length)
    (hst : (∃ f', f = f' + 1) → fsG s f i st = fsG s (f - 1) (i + m) st') (hsa : ∀ a, st' = some a → a ≤ i + m) (hb : Below wr.heap.size wr w') : FsI s n0 Bs J k (i + m) (f - 1) st' w' :=
  ⟨hm2, by have := h.fl; have := h.il; omega, hsa, by rw [h.dr]; exact hst ⟨f - 1, by have := h.fl; have := h.il; omega⟩, h.kl, hJ _ _ _ h.j ⟨hb.os, hb.tape, hb.output, hb.size, fun k hk _ => hb.block k hk⟩, (hb.block _ h.b.lt).trans h.b, h.t.below hb h.n, Nat.le_trans h.n hb.size⟩
theorem FsI.up {s : List UInt8} {n0 Bs : Nat} {J : Nat → World → Prop} {k i f : Nat} {st : Option Nat} {wr w' : World} (h : FsI s n0 Bs J k i f st wr) (hJ : Steady Bs J) (hb : Below wr.heap.size wr w') : FsI s n0 Bs J k i f st w' :=
  ⟨h.il, h.fl, h.sa, h.dr, h.kl, hJ _ _ _ h.j ⟨hb.os, hb.tape, hb.output, hb.size, fun k hk _ => hb.block k hk⟩, (hb.block _ h.b.lt).trans h.b, h.t.below hb h.n, Nat.le_trans h.n hb.size⟩
theorem isSp_hi {b : UInt8} (h : ¬ b.toNat < 128) : Lib.isSp b = false := by
  have hne : ∀ x : UInt8, x.toNat < 128 → (b == x) = false := fun x hx => by rw [beq_eq_false_iff_ne]; rintro rfl; exact h hx
  simp [Lib.isSp, hne 9 (by decide), hne 10 (by decide), hne 11 (by decide), hne 12 (by decide), hne 13 (by decide), hne 32 (by decide)]
theorem below_rfl (w : World) : Below w.heap.size w w := Below.refl _ _
/-- The next place behind a word that was yielded. -/
theorem FsI.word {s : List UInt8} {n0 Bs : Nat} {J : Nat → World → Prop} {k i f a : Nat} {wr w' : World} (h : FsI s n0 Bs J k i f (some a) wr) (hi : i < s.length) (hp : (spAt s i).1 = true) {m : Nat} (hm : (spAt s i).2 = m) (hm1 : 1 ≤ m) (hm2 : i + m ≤ s.length)
    (hj : J (k + 1) w') (hk : KpF n0 Bs wr w') : FsI s n0 Bs J (k + 1) (i + m) (f - 1) none w' := by
  obtain ⟨f', rfl⟩ : ∃ f', f = f' + 1 := ⟨f - 1, by have := h.fl; have := h.il; omega⟩
  have hd := h.dr
  rw [fsG_sp_s hi hp, hm] at hd
  obtain ⟨h1, h2⟩ := drop_some hd
  exact ⟨hm2, by have := h.fl; omega, fun a e => (by cases e), h2, (List.getElem?_eq_some_iff.1 h1).1, hj, hk.2.1.trans h.b, h.t.up hk.1, Nat.le_trans h.n hk.2.2⟩
theorem FsI.at_ {s : List UInt8} {n0 Bs : Nat} {J : Nat → World → Prop} {k i f a : Nat} {wr : World} (h : FsI s n0 Bs J k i f (some a) wr) (hi : i < s.length) (hp : (spAt s i).1 = true) : (fieldsS s)[k]? = some ((s.drop a).take (i - a)) := by
  obtain ⟨f', rfl⟩ : ∃ f', f = f' + 1 := ⟨f - 1, by have := h.fl; have := h.il; omega⟩
  have hd := h.dr
  rw [fsG_sp_s hi hp] at hd
  exact (drop_some hd).1
theorem FsI.last {s : List UInt8} {n0 Bs : Nat} {J : Nat → World → Prop} {k i f a : Nat} {wr : World} (h : FsI s n0 Bs J k i f (some a) wr) (hi : ¬ i < s.length) : (fieldsS s)[k]? = some (s.drop a) ∧ (fieldsS s).length = k + 1 := by
  obtain ⟨f', rfl⟩ : ∃ f', f = f' + 1 := ⟨f - 1, by have := h.fl; have := h.il; omega⟩
  have hd := h.dr
  rw [fsG_end_s hi] at hd
  exact drop_one hd
theorem ext_ai {s : List UInt8} {a i : Nat} (h : a ≤ i) (hi : i ≤ s.length) : (⟨s.toArray⟩ : ByteArray).extract a i = ⟨((s.drop a).take (i - a)).toArray⟩ := by
  apply ByteArray.ext
  simp only [ByteArray.data_extract, List.extract_toArray, List.extract_eq_take_drop]

set_option maxRecDepth 100000 in
set_option maxHeartbeats 8000000 in
theorem fields1_in (n : Nat) (hn : 1 ≤ n) (s : List UInt8) (hs : s.length ≤ 1000000) (Bs n0 : Nat) (w : World) (hb : Boxed w Bs 9 (.string ⟨s.toArray⟩)) (hF : FT n0 w) (hn0 : n0 ≤ w.heap.size) :
    IterC Fence.wide n Tryd.prog 45 #[.pointer (some ⟨Bs, 0, none⟩)] (fun l : List UInt8 => .string ⟨l.toArray⟩) Bs (KpF n0 Bs) (fieldsS s) w := by
  intro l J Jx W hW hJ hJx hY h0
  replace hb : Boxed W Bs _ _ := (hW.block _ hb.lt).trans hb
  have hF' : FT n0 W := hF.below hW hn0
  refine callsIn_of_wp Tryd.func45 rfl trivial ?_ rfl
  simp only [Tryd.ntmps45, List.size_toArray, List.length_cons, List.length_nil, Nat.reduceAdd, Nat.reduceSub, Array.replicate_succ, Array.replicate_zero, List.push_toArray, List.append_toArray, List.nil_append, List.cons_append]
  have HJ := Lib.hid hJ
  have HJx := Lib.hid hJx
  have HY := Lib.hid hY
  have HI0 : Hid (FsI s n0 Bs J 0 0 (s.length + 1) none W) := Lib.hid ⟨Nat.zero_le _, by omega, fun a e => (by cases e), rfl, Nat.zero_le _, h0, hb, hF', Nat.le_trans hn0 hW.size⟩
  clear hJ hJx hY h0 hb hF' hF
  gi_wp2
  gi_loopw [3, 4] (fun sv iv wr => ∃ (i : Nat) (st : Option Nat), iv = .int .i64 (i : Int) ∧ sv = stV st ∧ i ≤ s.length ∧ Hid (∃ k f, FsI s n0 Bs J k i f st wr)) (fun _ iv _ => s.length - (intOf iv).toNat)
  case atStart => exact ⟨0, none, rfl, rfl, Nat.zero_le _, Lib.hid ⟨0, _, HI0.out⟩⟩
  case round =>
    clear HI0
    obtain ⟨i, st, rfl, rfl, hil, HR⟩ := hrel
    obtain ⟨k, f, hI⟩ := HR.out
    have HI := Lib.hid hI
    have q1 := hI.b.cell
    clear HR hI
    by_cases hlt : i < s.length
    · have hlt' : (i : Int) < (s.length : Int) := by omega
      obtain ⟨b, hb⟩ : ∃ b, s[i]? = some b := ⟨_, List.getElem?_eq_getElem hlt⟩
      obtain ⟨_, hbe⟩ := List.getElem?_eq_some_iff.1 hb
      have hb2 : (⟨s.toArray⟩ : ByteArray)[i]'(by simpa [ByteArray.size] using hlt) = b := by simpa [ByteArray.getElem_eq_getElem_data] using hbe
      have hbb : b.toNat < 256 := b.toNat_lt
      have qt := HI.out.tabs.1 b.toNat hbb
      rw [asc_tab _ hbb, show UInt8.ofNat b.toNat = b by simp] at qt
      have HBB := Lib.hid hb
      clear hb hbe
      by_cases hasc : b.toNat < 128
      · have HSP := Lib.hid (spAt_asc HBB.out hasc)
        have hna : ¬ (128 : Int) ≤ (b.toNat : Int) := by omega
        cases hsp : Lib.isSp b with
        | true =>
          rw [hsp] at HSP qt
          rw [if_pos rfl] at qt
          rcases st with _ | a
          · simp only [stV]
            gi_wp2
            go_roundw
            case rel => exact ⟨i + 1, none, by first | go_num | rfl, rfl, by omega, Lib.hid ⟨k, f - 1, HI.out.next HJ.out hlt (by rw [HSP.out]) (Nat.le_refl _) (by omega) (fun ⟨f2, e2⟩ => by subst e2; rw [fsG_sp_n hlt (by rw [HSP.out]), HSP.out]; rfl) (fun a e => by cases e) (below_rfl _)⟩⟩
            case measure => simp [intOf]; omega
          · simp only [stV]
            have hai : a ≤ i := HI.out.sa a rfl
            have hai' : (a : Int) ≤ (i : Int) := by omega
            have ha0 : (0 : Int) ≤ (a : Int) := by omega
            have E1 := ext_ai hai hil
            obtain ⟨fn, tmps, assign, body, hy, hR⟩ := HY.out k _ _ HI.out.j (HI.out.at_ hlt (by rw [HSP.out]))
            rw [← E1] at hy
            have hkl := (List.getElem?_eq_some_iff.1 (HI.out.at_ hlt (by rw [HSP.out]))).1
            clear E1
            gi_wp2
            refine hR.mono ?_
            rintro e W3 (⟨rfl, hJ3, hk3⟩ | ⟨rfl, hJx3⟩)
            · have HW := Lib.hid (HI.out.word hlt (by rw [HSP.out]) (by rw [HSP.out]) (Nat.le_refl _) (by omega) hJ3 hk3)
              clear hJ3 hk3 hR hy q1
              gi_wp2
              go_roundw
              case rel => exact ⟨i + 1, none, by first | go_num | rfl, rfl, by omega, Lib.hid ⟨k + 1, f - 1, HW.out⟩⟩
              case measure => simp [intOf]; omega
            · have HX := Lib.hid hJx3
              clear hJx3
              gi_wp2
              refine bodyPost_ret (results_none rfl _ _ _) rfl ?_
              exact ⟨⟨_, rfl⟩, .inr ⟨k + 1, hkl, HX.out⟩⟩
        | false =>
          rw [hsp] at HSP qt
          rw [if_neg Bool.false_ne_true] at qt
          rcases st with _ | a
          · simp only [stV]
            gi_wp2
            go_roundw
            case rel => exact ⟨i + 1, some i, by first | go_num | rfl, rfl, by omega, Lib.hid ⟨k, f - 1, HI.out.next HJ.out hlt (by rw [HSP.out]) (Nat.le_refl _) (by omega) (fun ⟨f2, e2⟩ => by subst e2; rw [fsG_no hlt (by rw [HSP.out]), HSP.out]; rfl) (fun a e => by injection e with e; omega) (below_rfl _)⟩⟩
            case measure => simp [intOf]; omega
          · have hai : a ≤ i := HI.out.sa a rfl
            have ha0 : (0 : Int) ≤ (a : Int) := by omega
            simp only [stV]
            gi_wp2
            go_roundw
            case rel => exact ⟨i + 1, some a, by first | go_num | rfl, rfl, by omega, Lib.hid ⟨k, f - 1, HI.out.next HJ.out hlt (by rw [HSP.out]) (Nat.le_refl _) (by omega) (fun ⟨f2, e2⟩ => by subst e2; rw [fsG_no hlt (by rw [HSP.out]), HSP.out]; rfl) (fun x e => by injection e with e; omega) (below_rfl _)⟩⟩
            case measure => simp [intOf]; omega
      · obtain ⟨r, m, hdm⟩ : ∃ r m, Utf8.decode ⟨s.toArray⟩ i = (r, m) := ⟨_, _, rfl⟩
        have hw := dec_width s i hlt
        have hle : r ≤ 2147483647 := by have := decode_le (⟨s.toArray⟩ : ByteArray) i; rw [hdm] at this; exact this
        have HSP : Hid (spAt s i = (Lib.isSpaceR r, m)) := Lib.hid (by rw [spAt_hi HBB.out hasc, hdm])
        rw [hdm] at hw
        obtain ⟨hm1, hm2⟩ := hw
        have HDR : Hid (∀ W, TabsAt W → Calls Tryd.prog 46 #[.string ((⟨s.toArray⟩ : ByteArray).extract i s.length)] W fun e w' => e = .returned (.tuple #[.int .i32 (r : Int), .int .i64 (m : Int)]) ∧ Below W.heap.size W w') := Lib.hid fun W hW => by
          have := Tryd.utf8_DecodeRuneInString ((⟨s.toArray⟩ : ByteArray).extract i s.length) W hW.2.2
          rw [dec_tail s i hlt, hdm] at this
          exact this
        have HIS : Hid (∀ W, TabsAt W → Calls Tryd.prog 47 #[.int .i32 (r : Int)] W fun e w' => e = .returned (.bool (Lib.isSpaceR r)) ∧ Below W.heap.size W w') := Lib.hid fun W hW => by
          have := Tryd.unicode_IsSpace_any (r : Int) W (by omega) (by omega) hW.2.1
          rw [Lib.isSpaceZ_nat] at this
          exact this
        have hna : (128 : Int) ≤ (b.toNat : Int) := by omega
        rw [isSp_hi hasc, if_neg Bool.false_ne_true] at qt
        clear hdm
        have hi0 : (0 : Int) ≤ (i : Int) := by omega
        have hmi : (0 : Int) ≤ (m : Int) := by omega
        cases hsr : Lib.isSpaceR r with
        | true =>
          rw [hsr] at HSP HIS
          rcases st with _ | a
          · simp only [stV]
            gi_wp2_with (first | (refine ⟨trivial, ?_⟩; gi_at_call 46; refine (callsIn_wide.2 (HDR.out _ HI.out.tabs)).mono ?_; rintro e w1 ⟨rfl, hb1⟩; replace HI := Lib.hid (HI.out.up HJ.out hb1); clear hb1 q1; have q1 := HI.out.b.cell) | (refine ⟨trivial, ?_⟩; gi_at_call 47; refine (callsIn_wide.2 (HIS.out _ HI.out.tabs)).mono ?_; rintro e w2 ⟨rfl, hb1⟩; replace HI := Lib.hid (HI.out.up HJ.out hb1); clear hb1 q1; have q1 := HI.out.b.cell))
            go_roundw
            case rel => exact ⟨i + m, none, by first | go_num | rfl, rfl, by omega, Lib.hid ⟨k, f - 1, HI.out.next HJ.out hlt (by rw [HSP.out]) hm1 hm2 (fun ⟨f2, e2⟩ => by subst e2; rw [fsG_sp_n hlt (by rw [HSP.out]), HSP.out]; rfl) (fun a e => by cases e) (below_rfl _)⟩⟩
            case measure => simp [intOf]; omega
          · simp only [stV]
            have hai : a ≤ i := HI.out.sa a rfl
            have hai' : (a : Int) ≤ (i : Int) := by omega
            have ha0 : (0 : Int) ≤ (a : Int) := by omega
            gi_wp2_with (first | (refine ⟨trivial, ?_⟩; gi_at_call 46; refine (callsIn_wide.2 (HDR.out _ HI.out.tabs)).mono ?_; rintro e w1 ⟨rfl, hb1⟩; replace HI := Lib.hid (HI.out.up HJ.out hb1); clear hb1 q1; have q1 := HI.out.b.cell) | (refine ⟨trivial, ?_⟩; gi_at_call 47; refine (callsIn_wide.2 (HIS.out _ HI.out.tabs)).mono ?_; rintro e w2 ⟨rfl, hb1⟩; replace HI := Lib.hid (HI.out.up HJ.out hb1); clear hb1 q1; have q1 := HI.out.b.cell))
            have E1 := ext_ai hai hil
            obtain ⟨fn, tmps, assign, body, hy, hR⟩ := HY.out k _ _ HI.out.j (HI.out.at_ hlt (by rw [HSP.out]))
            rw [← E1] at hy
            have hkl := (List.getElem?_eq_some_iff.1 (HI.out.at_ hlt (by rw [HSP.out]))).1
            clear E1
            rw [hy]
            gi_wp2
            refine hR.mono ?_
            rintro e W3 (⟨rfl, hJ3, hk3⟩ | ⟨rfl, hJx3⟩)
            · have HW := Lib.hid (HI.out.word hlt (by rw [HSP.out]) (by rw [HSP.out]) hm1 hm2 hJ3 hk3)
              clear hJ3 hk3 hR hy q1
              gi_wp2
              go_roundw
              case rel => exact ⟨i + m, none, by first | go_num | rfl, rfl, by omega, Lib.hid ⟨k + 1, f - 1, HW.out⟩⟩
              case measure => simp [intOf]; omega
            · have HX := Lib.hid hJx3
              clear hJx3
              gi_wp2
              refine bodyPost_ret (results_none rfl _ _ _) rfl ?_
              exact ⟨⟨_, rfl⟩, .inr ⟨k + 1, hkl, HX.out⟩⟩
        | false =>
          rw [hsr] at HSP HIS
          rcases st with _ | a
          · simp only [stV]
            gi_wp2_with (first | (refine ⟨trivial, ?_⟩; gi_at_call 46; refine (callsIn_wide.2 (HDR.out _ HI.out.tabs)).mono ?_; rintro e w1 ⟨rfl, hb1⟩; replace HI := Lib.hid (HI.out.up HJ.out hb1); clear hb1 q1; have q1 := HI.out.b.cell) | (refine ⟨trivial, ?_⟩; gi_at_call 47; refine (callsIn_wide.2 (HIS.out _ HI.out.tabs)).mono ?_; rintro e w2 ⟨rfl, hb1⟩; replace HI := Lib.hid (HI.out.up HJ.out hb1); clear hb1 q1; have q1 := HI.out.b.cell))
            go_roundw
            case rel => exact ⟨i + m, some i, by first | go_num | rfl, rfl, by omega, Lib.hid ⟨k, f - 1, HI.out.next HJ.out hlt (by rw [HSP.out]) hm1 hm2 (fun ⟨f2, e2⟩ => by subst e2; rw [fsG_no hlt (by rw [HSP.out]), HSP.out]; rfl) (fun a e => by injection e with e; omega) (below_rfl _)⟩⟩
            case measure => simp [intOf]; omega
          · have hai : a ≤ i := HI.out.sa a rfl
            have ha0 : (0 : Int) ≤ (a : Int) := by omega
            simp only [stV]
            gi_wp2_with (first | (refine ⟨trivial, ?_⟩; gi_at_call 46; refine (callsIn_wide.2 (HDR.out _ HI.out.tabs)).mono ?_; rintro e w1 ⟨rfl, hb1⟩; replace HI := Lib.hid (HI.out.up HJ.out hb1); clear hb1 q1; have q1 := HI.out.b.cell) | (refine ⟨trivial, ?_⟩; gi_at_call 47; refine (callsIn_wide.2 (HIS.out _ HI.out.tabs)).mono ?_; rintro e w2 ⟨rfl, hb1⟩; replace HI := Lib.hid (HI.out.up HJ.out hb1); clear hb1 q1; have q1 := HI.out.b.cell))
            go_roundw
            case rel => exact ⟨i + m, some a, by first | go_num | rfl, rfl, by omega, Lib.hid ⟨k, f - 1, HI.out.next HJ.out hlt (by rw [HSP.out]) hm1 hm2 (fun ⟨f2, e2⟩ => by subst e2; rw [fsG_no hlt (by rw [HSP.out]), HSP.out]; rfl) (fun x e => by injection e with e; omega) (below_rfl _)⟩⟩
            case measure => simp [intOf]; omega
    · obtain rfl : i = s.length := by omega
      rcases st with _ | a
      · have HE : Hid (J (fieldsS s).length wr) := Lib.hid (by
          obtain ⟨f2, rfl⟩ : ∃ f2, f = f2 + 1 := ⟨f - 1, by have := HI.out.fl; omega⟩
          have hd := HI.out.dr
          rw [fsG_end_n hlt] at hd
          rw [drop_end hd HI.out.kl]; exact HI.out.j)
        simp only [stV]
        gi_wp2
        go_end0
        exact ⟨⟨_, rfl⟩, .inl HE.out⟩
      · have hai : a ≤ s.length := HI.out.sa a rfl
        have ha0 : (0 : Int) ≤ (a : Int) := by omega
        have hai' : (a : Int) ≤ (s.length : Int) := by omega
        obtain ⟨hps, hlen⟩ := HI.out.last hlt
        have E1 : (⟨s.toArray⟩ : ByteArray).extract a s.length = ⟨(s.drop a).toArray⟩ := by have := ext_ai hai (Nat.le_refl _); rw [this, List.take_of_length_le (by simp)]
        obtain ⟨fn, tmps, assign, body, hy, hR⟩ := HY.out k _ _ HI.out.j hps
        rw [← E1] at hy
        have HLn := Lib.hid hlen
        clear E1 hps hlen
        simp only [stV]
        gi_wp2
        refine hR.mono ?_
        rintro e W3 (⟨rfl, hJ3, hk3⟩ | ⟨rfl, hJx3⟩)
        · have HJ3 := Lib.hid hJ3
          clear hJ3 hk3 hR hy
          gi_wp2
          go_end0
          exact ⟨⟨_, rfl⟩, .inl (by rw [HLn.out]; exact HJ3.out)⟩
        · have HX := Lib.hid hJx3
          clear hJx3
          gi_wp2
          go_end0
          exact ⟨⟨_, rfl⟩, .inr ⟨k + 1, by rw [HLn.out]; exact Nat.le_refl _, HX.out⟩⟩
/-- strings.FieldsSeq: the box, and the function value over it. -/
theorem FieldsSeq_in (n : Nat) (s : List UInt8) (w : World) :
    CallsIn Fence.wide n Tryd.prog 38 #[.string ⟨s.toArray⟩] w fun e w' => e = .returned (.func (.func 45) #[] #[.pointer (some ⟨w.heap.size, 0, none⟩)]) ∧ w' = w.alloc (.cells #[.string ⟨s.toArray⟩] 9) := by
  refine callsIn_of_wp Tryd.func38 rfl trivial ?_ rfl
  simp only [Tryd.ntmps38, List.size_toArray, List.length_cons, List.length_nil, Nat.reduceAdd, Nat.reduceSub, Array.replicate_succ, Array.replicate_zero, List.push_toArray, List.append_toArray, List.nil_append, List.cons_append]
  gi_wp2
  go_ret
  exact ⟨rfl, rfl⟩

end Go.Proofs.YtfbloolloifndaaDoor
