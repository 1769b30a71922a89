/-
  What config.Print prints, in plain Lean: the words of its lines.
  What the examples of the document mean (by evaluation), and how many words a line has.
  waypointlaw15.awake: the examples of the document hold.
  The first error of a text is that of its lines up to its line (plain), and the shape of a configuration's value.
  What the walk of config.Print leans on; config.segmentText.
-/
import Derived.Test.YtfimacgmciogmaaGreatDoorPkApp
import Derived.Test.YtfimacgmciogmaaGreatDoorPkCfgSp
import Derived.Test.YtfimacgmciogmaaGreatDoorCfgPb
import Derived.Lib.Join
import Derived.Test.YtfimacgmciogmaaGreatDoorPkText
namespace Go.Proofs.YtfimacgmciogmaaGreatDoor
set_option linter.unusedSimpArgs false
set_option linter.unusedVariables false
open Go.RowKit Go.Sort Go.Shelf
def getN (l : List (List UInt8)) (i : Int) : List UInt8 := l.getD i.toNat []
def nodeW (c : Cf) (k : Nat) : List (List UInt8) := if c.ov.getD k false = true then [kNode, c.names.getD k [], kOverload] else [kNode, c.names.getD k []]
def lnkW (c : Cf) (x : List UInt8) (l : Lnk) : List (List UInt8) := [kLink, x, kFrom, getN c.names l.a, kTo, getN c.names l.b, kCost, Lib.itoa l.c0, kBack, Lib.itoa l.c1, kCapacity, Lib.itoa l.cap, kDelay, Lib.itoa l.dl, kGroup, Lib.itoa l.g]
def linkW (c : Cf) (k : Nat) : List (List UInt8) := lnkW c (c.lnames.getD k []) (c.links.getD k default)
def routeW (c : Cf) (p : Int × Int × Int) : List (List UInt8) := [kPrefix, ptextS p.1 p.2.1, kAt, getN c.names p.2.2]
def pfxW (c : Cf) (k : Nat) : List (List UInt8) := routeW c (c.pfx.getD k (0, 0, 0))
def kGt : List UInt8 := [62]
def kLt : List UInt8 := [60]
/-- A segment of a policy as it is printed. -/
def segTx (c : Cf) (s : Int × Int) : List UInt8 :=
 if s.1 = 1 then getN c.names s.2 else if s.1 = 2 then getN c.lnames (s.2 / 2) ++ (if s.2 % 2 = 0 then kGt else kLt) else if s.1 = 3 then kAny ++ 32 :: Lib.itoa s.2 else kBind ++ 32 :: Lib.itoa s.2
def plcW (c : Cf) (p : Int × Int × List (Int × Int)) : List (List UInt8) := [kPolicy, getN c.names p.1, Lib.itoa p.2.1, kEq] ++ p.2.2.map (segTx c)
def polW (c : Cf) (k : Nat) : List (List UInt8) := plcW c (c.pols.getD k (0, 0, []))
def dmdW (c : Cf) (d : Int × Int × Int × Int) : List (List UInt8) := [kDemand, kFrom, getN c.names d.1, kTo, getN c.names d.2.1, kAmount, Lib.itoa d.2.2.1, kPriority, Lib.itoa d.2.2.2]
def demW (c : Cf) (k : Nat) : List (List UInt8) := dmdW c (c.dems.getD k (0, 0, 0, 0))
def timW (c : Cf) (k : Nat) : List (List UInt8) := [kTimer, tNames.getD k [], kEq, Lib.itoa (c.tm.getD k 0)]
def mapR {α : Type} (n : Nat) (f : Nat → α) : List α := (List.range n).map f
def linesC (c : Cf) : List (List (List UInt8)) :=
 mapR c.names.length (nodeW c) ++ (mapR c.links.length (linkW c) ++ (mapR c.pfx.length (pfxW c) ++ (mapR c.pols.length (polW c) ++ (mapR c.dems.length (demW c) ++ mapR 5 (timW c)))))
def txt (c : Cf) (j : Nat) : List UInt8 := ((linesC c).take j).flatMap prnT
/-- The text of a configuration. -/
def printC (c : Cf) : List UInt8 := (linesC c).flatMap prnT
theorem mapR_len {α : Type} (n : Nat) (f : Nat → α) : (mapR n f).length = n := by simp [mapR]
theorem mapR_at {α : Type} {n k : Nat} {f : Nat → α} (h : k < n) : (mapR n f)[k]? = some (f k) := by simp [mapR, List.getElem?_range h]
theorem app_off {α : Type} {A R : List α} {a k : Nat} (h : A.length = a) : (A ++ R)[a + k]? = R[k]? := by
 subst h
 rw [List.getElem?_append_right (by omega)]
 congr 1
 omega
theorem app_in {α : Type} {A R : List α} {k : Nat} {x : α} (h : A[k]? = some x) : (A ++ R)[k]? = some x := by
 rw [List.getElem?_append_left (List.getElem?_eq_some_iff.1 h).1]; exact h
theorem lines1 {c : Cf} {k : Nat} (h : k < c.names.length) : (linesC c)[k]? = some (nodeW c k) := app_in (mapR_at h)
theorem lines2 {c : Cf} {k : Nat} (h : k < c.links.length) : (linesC c)[c.names.length + k]? = some (linkW c k) := by
 rw [linesC, app_off (mapR_len _ _)]
 exact app_in (mapR_at h)
theorem lines3 {c : Cf} {k : Nat} (h : k < c.pfx.length) : (linesC c)[c.names.length + (c.links.length + k)]? = some (pfxW c k) := by
 rw [linesC, app_off (mapR_len _ _), app_off (mapR_len _ _)]
 exact app_in (mapR_at h)
theorem lines4 {c : Cf} {k : Nat} (h : k < c.pols.length) : (linesC c)[c.names.length + (c.links.length + (c.pfx.length + k))]? = some (polW c k) := by
 rw [linesC, app_off (mapR_len _ _), app_off (mapR_len _ _), app_off (mapR_len _ _)]
 exact app_in (mapR_at h)
theorem lines5 {c : Cf} {k : Nat} (h : k < c.dems.length) : (linesC c)[c.names.length + (c.links.length + (c.pfx.length + (c.pols.length + k)))]? = some (demW c k) := by
 rw [linesC, app_off (mapR_len _ _), app_off (mapR_len _ _), app_off (mapR_len _ _), app_off (mapR_len _ _)]
 exact app_in (mapR_at h)
theorem lines6 {c : Cf} {k : Nat} (h : k < 5) : (linesC c)[c.names.length + (c.links.length + (c.pfx.length + (c.pols.length + (c.dems.length + k))))]? = some (timW c k) := by
 rw [linesC, app_off (mapR_len _ _), app_off (mapR_len _ _), app_off (mapR_len _ _), app_off (mapR_len _ _), app_off (mapR_len _ _)]
 exact mapR_at h
theorem lines_len (c : Cf) : (linesC c).length = c.names.length + (c.links.length + (c.pfx.length + (c.pols.length + (c.dems.length + 5)))) := by
 simp [linesC, mapR_len]
theorem txt_succ {c : Cf} {j : Nat} {ws : List (List UInt8)} (h : (linesC c)[j]? = some ws) : txt c (j + 1) = txt c j ++ prnT ws := by
 obtain ⟨h1, h2⟩ := List.getElem?_eq_some_iff.1 h
 rw [txt, List.take_succ_eq_append_getElem h1, List.flatMap_append, h2]
 simp [txt]
theorem txt_end (c : Cf) : txt c (c.names.length + (c.links.length + (c.pfx.length + (c.pols.length + (c.dems.length + 5))))) = printC c := by
 rw [txt, ← lines_len, List.take_length]; rfl
theorem txt_le (c : Cf) (j : Nat) : (txt c j).length ≤ (printC c).length := by
 have h : printC c = txt c j ++ ((linesC c).drop j).flatMap prnT := by
  rw [txt, ← List.flatMap_append, List.take_append_drop]; rfl
 rw [h, List.length_append]
 omega
/-- What a valid configuration is, fact by fact. -/
structure CfOk (n : Int) (c : Cf) : Prop where
 n1 : 1 ≤ n
 n2 : n ≤ 64
 lk : c.links.length ≤ 256
 nn : (c.names.length : Int) = n
 ln : c.lnames.length = c.links.length
 ov : c.ov.length = 0 ∨ c.ov.length = c.names.length
 ovt : c.ov.length = 0 ∨ true ∈ c.ov
 nm : namesB (c.names ++ c.lnames) = true
 kk : ∀ l ∈ c.links, lnkOk n l = true
 pf : prefsB n c.pfx = true
 pl : polsB n c.links.length c.pols = true
 dm : demsB n c.dems = true
 tm : tmB c = true
theorem cf_ok {n : Int} {c : Cf} (h : cfgB n c = true) : CfOk n c := by
 simp only [cfgB, Bool.and_eq_true, decide_eq_true_eq, Bool.or_eq_true] at h
 obtain ⟨⟨hv, ho⟩, h3, h4, h5, h6, h7, h8, h9⟩ := h
 have h1 : 1 ≤ n ∧ n ≤ 64 := by
  by_cases h1 : 1 ≤ (topOf n c).n ∧ (topOf n c).n ≤ 64
  ·exact h1
  ·rw [bad1 h1] at hv; cases hv
 have h2 : c.links.length ≤ 256 := by
  by_cases h2 : (topOf n c).ls.length ≤ 256
  ·exact h2
  ·rw [bad2 h2] at hv; cases hv
 refine ⟨h1.1, h1.2, h2, h3, h4, ?_, ho, h5, ?_, h7, h8, h9, h6⟩
 ·by_cases e1 : (topOf n c).ov.length = 0
  ·exact .inl e1
  ·by_cases e2 : ((topOf n c).ov.length : Int) = (topOf n c).n
   ·refine .inr ?_
    have e3 : (c.ov.length : Int) = n := e2
    omega
   ·rw [bad3 e1 e2] at hv; cases hv
 ·have : ((topOf n c).ls.all (lnkOk (topOf n c).n)) = true := by
   unfold valid at hv
   simp only [Bool.and_eq_true] at hv
   exact hv.2
  exact fun l hl => List.all_eq_true.1 this l hl
theorem wB_iff {x lo hi : Int} : wB x lo hi = true ↔ lo ≤ x ∧ x ≤ hi := by simp [wB]
theorem CfOk.link {n : Int} {c : Cf} (h : CfOk n c) {l : Lnk} (hl : l ∈ c.links) : l.a ≠ l.b ∧ (0 ≤ l.a ∧ l.a < n) ∧ (0 ≤ l.b ∧ l.b < n) ∧ (1 ≤ l.c0 ∧ l.c0 ≤ 65535) ∧ (1 ≤ l.c1 ∧ l.c1 ≤ 65535) ∧ (0 ≤ l.cap ∧ l.cap ≤ 1048576) ∧ (1 ≤ l.dl ∧ l.dl ≤ 65536) ∧ (0 ≤ l.g ∧ l.g ≤ 64) := by
 have := h.kk l hl
 simp only [lnkOk, Bool.and_eq_true, inR_true, Bool.not_eq_true', beq_eq_false_iff_ne] at this
 obtain ⟨⟨⟨⟨⟨⟨⟨h0, h1⟩, h2⟩, h3⟩, h4⟩, h5⟩, h6⟩, h7⟩ := this
 exact ⟨h0, by omega, by omega, h3, h4, h5, h6, h7⟩
theorem CfOk.route {n : Int} {c : Cf} (h : CfOk n c) {p : Int × Int × Int} (hp : p ∈ c.pfx) : pvalB p.1 p.2.1 = true ∧ 0 ≤ p.2.2 ∧ p.2.2 < n := by
 have h1 := ((pfK_iff n c.pfx [] []).1 h.pf).1 p hp
 have h2 := wB_iff.1 h1.2
 exact ⟨h1.1, by omega, by omega⟩
theorem polK_all {n : Int} {m : Nat} : ∀ {ps : List (Int × Int × List (Int × Int))} {seen : List (Int × Int)}, polK n m seen ps = true → ∀ p ∈ ps, polB n m p = true
 | [], _, _, p, hp => by cases hp
 | q :: r, seen, h, p, hp => by
  simp only [polK, Bool.and_eq_true] at h
  rcases List.mem_cons.1 hp with rfl | hp
  ·exact h.2.1
  ·exact polK_all h.2.2 p hp
theorem CfOk.pol {n : Int} {c : Cf} (h : CfOk n c) {p : Int × Int × List (Int × Int)} (hp : p ∈ c.pols) : (0 ≤ p.1 ∧ p.1 < n) ∧ (0 ≤ p.2.1 ∧ p.2.1 ≤ 65535) ∧ p.2.2.length ≤ 32 ∧ ∀ s ∈ p.2.2, segB n c.links.length s = true := by
 have h1 := h.pl
 simp only [polsB, Bool.and_eq_true] at h1
 have h2 := polK_all h1.2 p hp
 simp only [polB, Bool.and_eq_true, decide_eq_true_eq, wB_iff] at h2
 exact ⟨by omega, h2.2.1, h2.2.2.1, fun s hs => List.all_eq_true.1 h2.2.2.2 s hs⟩
theorem CfOk.polsn {n : Int} {c : Cf} (h : CfOk n c) : c.pols.length ≤ 64 := by
 have h1 := h.pl
 simp only [polsB, Bool.and_eq_true, decide_eq_true_eq] at h1
 exact h1.1
theorem CfOk.dem {n : Int} {c : Cf} (h : CfOk n c) {d : Int × Int × Int × Int} (hd : d ∈ c.dems) : d.1 ≠ d.2.1 ∧ (0 ≤ d.1 ∧ d.1 < n) ∧ (0 ≤ d.2.1 ∧ d.2.1 < n) ∧ (1 ≤ d.2.2.1 ∧ d.2.2.1 ≤ 1048576) ∧ (0 ≤ d.2.2.2 ∧ d.2.2.2 ≤ 7) := by
 have h1 := h.dm
 simp only [demsB, Bool.and_eq_true] at h1
 have h2 := List.all_eq_true.1 h1.2 d hd
 simp only [demB, Bool.and_eq_true, wB_iff, Bool.not_eq_true', beq_eq_false_iff_ne] at h2
 exact ⟨h2.1, by omega, by omega, h2.2.2.2.1, h2.2.2.2.2⟩
theorem CfOk.demsn {n : Int} {c : Cf} (h : CfOk n c) : c.dems.length ≤ 64 := by
 have h1 := h.dm
 simp only [demsB, Bool.and_eq_true, decide_eq_true_eq] at h1
 exact h1.1
theorem CfOk.tim {n : Int} {c : Cf} (h : CfOk n c) {k : Nat} (hk : k < 5) : 1 ≤ c.tm.getD k 0 ∧ c.tm.getD k 0 ≤ 65536 := by
 have h1 := h.tm
 simp only [tmB, Bool.and_eq_true, wB_iff] at h1
 rcases (by omega : k = 0 ∨ k = 1 ∨ k = 2 ∨ k = 3 ∨ k = 4) with rfl | rfl | rfl | rfl | rfl
 ·exact h1.1
 ·exact h1.2.1
 ·exact h1.2.2.1
 ·exact h1.2.2.2.1
 ·exact h1.2.2.2.2
theorem segB_cases {n : Int} {m : Nat} {s : Int × Int} (h : segB n m s = true) : (s.1 = 1 ∧ 0 ≤ s.2 ∧ s.2 < n) ∨ (s.1 = 2 ∧ 0 ≤ s.2 ∧ s.2 < 2 * (m : Int)) ∨ (s.1 = 3 ∧ 1 ≤ s.2 ∧ s.2 ≤ 64) ∨ (s.1 = 4 ∧ 0 ≤ s.2 ∧ s.2 ≤ 65535) := by
 unfold segB at h
 by_cases h1 : s.1 = 1
 ·rw [if_pos h1] at h; have := wB_iff.1 h; exact .inl ⟨h1, by omega, by omega⟩
 ·rw [if_neg h1] at h
  by_cases h2 : s.1 = 2
  ·rw [if_pos h2] at h; have := wB_iff.1 h; exact .inr (.inl ⟨h2, by omega, by omega⟩)
  ·rw [if_neg h2] at h
   by_cases h3 : s.1 = 3
   ·rw [if_pos h3] at h; have := wB_iff.1 h; exact .inr (.inr (.inl ⟨h3, by omega, by omega⟩))
   ·rw [if_neg h3] at h
    by_cases h4 : s.1 = 4
    ·rw [if_pos h4] at h; have := wB_iff.1 h; exact .inr (.inr (.inr ⟨h4, by omega, by omega⟩))
    ·rw [if_neg h4] at h; cases h
end Go.Proofs.YtfimacgmciogmaaGreatDoor
namespace Go.Proofs.YtfimacgmciogmaaGreatDoor
set_option linter.unusedSimpArgs false
set_option linter.unusedVariables false
open Go.RowKit Go.Shelf Go.Sort
theorem wordsK_len : ∀ (l u : List UInt8), (wordsK u l).length ≤ l.length + (if u = [] then 0 else 1) ∧ ∀ x ∈ wordsK u l, x.length ≤ u.length + l.length
 | [], u => by
  unfold wordsK
  split
  ·simp
  ·simp
 | c :: r, u => by
  have h1 := wordsK_len r []
  have h2 := wordsK_len r (u ++ [c])
  unfold wordsK
  split
  ·constructor
   ·have := h1.1
    simp only [if_true] at this
    simp only [List.length_append, List.length_cons]
    by_cases hu : u = [] <;> by_cases hs : spcB c = true <;> simp only [hu, hs, if_true, if_false, Bool.false_eq_true, List.length_nil, List.length_cons] <;> omega
   ·intro x hx
    rcases List.mem_append.1 hx with hx | hx
    ·rcases List.mem_append.1 hx with hx | hx
     ·split at hx
      ·cases hx
      ·simp at hx; subst hx; omega
     ·split at hx
      ·cases hx
      ·simp at hx; subst hx; simp; omega
    ·have := h1.2 x hx
     simp at this ⊢; omega
  ·constructor
   ·have := h2.1
    rw [if_neg (by simp)] at this
    simp only [List.length_cons]
    split <;> omega
   ·intro x hx
    have := h2.2 x hx
    simp at this ⊢; omega
theorem wordsS_len (l : List UInt8) : (wordsS l).length ≤ l.length ∧ ∀ x ∈ wordsS l, x.length ≤ l.length := by
 have h := wordsK_len (cutA 35 l).1 []
 have h2 := cutA_len 35 l
 simp only [if_true, List.length_nil] at h
 exact ⟨by unfold wordsS; omega, fun x hx => by have := h.2 x hx; omega⟩
theorem words_small {s : List UInt8} (hs : s.length ≤ 9999) : ∀ l ∈ splitK 10 [] s, (wordsS l).length ≤ 10000 ∧ ∀ x ∈ wordsS l, x.length ≤ 10000 := fun l hl => by
 have h1 := splitK_mem hl
 have h2 := wordsS_len l
 exact ⟨by omega, fun x hx => by have := h2.2 x hx; omega⟩
def exS : List UInt8 := [110, 111, 100, 101, 32, 97, 10, 110, 111, 100, 101, 32, 98, 10, 108, 101, 116, 32, 120, 32, 61, 32, 50, 32, 42, 32, 40, 51, 32, 43, 32, 49, 41, 10, 108, 105, 110, 107, 32, 108, 32, 102, 114, 111, 109, 32, 97, 32, 116, 111, 32, 98, 32, 99, 111, 115, 116, 32, 120, 32, 45, 32, 49, 10]
def exA : List UInt8 := [108, 105, 110, 107, 32, 108, 32, 102, 114, 111, 109, 32, 97, 32, 116, 111, 32, 99]
def exB : List UInt8 := [110, 111, 100, 101, 32, 108]
def exC : List UInt8 := [108, 105, 110, 107, 32, 109, 32, 102, 114, 111, 109, 32, 97, 32, 116, 111, 32, 120]
def exD : List UInt8 := [116, 105, 109, 101, 114, 32, 104, 111, 108, 100, 32, 61, 32, 48]
def exCf : Cf := { c0 with names := [[97], [98]], lnames := [[108]], links := [⟨0, 1, 7, 7, 0, 1, 0⟩], ov := [false, false], sym := [([97], (1, 0)), ([98], (1, 1)), ([120], (3, 8)), ([108], (2, 0))] }
set_option maxRecDepth 100000 in
theorem exS_ok : parseC exS = .ok exCf := by kernel_rfl
theorem exA_no : parseC (exS ++ exA) = .error (5, 8) := by kernel_rfl
theorem exB_no : parseC (exS ++ exB) = .error (5, 9) := by kernel_rfl
theorem exC_no : parseC (exS ++ exC) = .error (5, 1) := by kernel_rfl
theorem exD_no : parseC (exS ++ exD) = .error (5, 2) := by kernel_rfl
end Go.Proofs.YtfimacgmciogmaaGreatDoor
namespace Go.Proofs.YtfimacgmciogmaaGreatDoor
set_option linter.unusedSimpArgs false
set_option linter.unusedVariables false
open Go.RowKit Go.Shelf Go.Sort
theorem str_app (a b : List UInt8) : (⟨a.toArray⟩ : ByteArray) ++ ⟨b.toArray⟩ = ⟨(a ++ b).toArray⟩ := by
 apply ByteArray.ext
 simp [ByteArray.data_append]
theorem config_ParseS (s : List UInt8) (hs : s.length ≤ 9999) (w : World) (hE : Errs w) (ht : Tab w.heap.size w) : Calls Tryz.prog 5 #[.string ⟨s.toArray⟩] w (RetCf w (parseC s)) :=
 config_Parse s (by omega) (words_small hs) w hE ht
set_option maxRecDepth 100000 in
set_option maxHeartbeats 4000000 in
theorem law15_fails (more : List UInt8) (want : Int) (hp : parseC (exS ++ more) = .error (5, want)) (bb : Nat) (w : World) (hb : Boxed w bb 9 (.string ⟨exS.toArray⟩)) (hl : more.length ≤ 1000) (hE : Errs w) (ht : Tab w.heap.size w) :
  Calls Tryz.prog 9 #[.string ⟨more.toArray⟩, .int .i64 want, .pointer (some ⟨bb, 0, none⟩)] w fun e w' => e = .returned (.bool true) ∧ Below w.heap.size w w' := by
 have q0 := hb.cell
 have E := str_app exS more
 have hsl : exS.length + more.length ≤ 1064 := by rw [show exS.length = 64 from rfl]; omega
 have HC := Lib.hid (config_ParseS (exS ++ more) (by rw [List.length_append]; omega) w hE ht)
 rw [hp] at HC
 generalize exS ++ more = s2 at *
 generalize exS = s1 at *
 clear hp hE ht hl
 go_enter Tryz.func9, Tryz.ntmps9
 go_wp2_with (go_at_call 5; refine HC.out.mono ?_; rintro e w1 ⟨rfl, hb1⟩; have HB1 := Lib.hid hb1; clear hb1; simp only [zeroK])
 go_ret
 exact ⟨rfl, below_next HB1.out (below_box _ _)⟩
theorem confV_ex (r : Rws) : confV r exCf = .agg #[.slice r.aN 2 r.cN, .slice r.aL 1 r.cL, .int .i64 2, .slice none 0 0, .slice r.aK 1 r.cK, .slice r.aP 0 r.cP, .slice r.aQ 0 r.cQ, .slice r.aD 0 r.cD, .int .i64 10, .int .i64 35, .int .i64 5, .int .i64 20, .int .i64 20] := by
 simp [confV, exCf, c0]
theorem ex_cells {B : Nat} {r : Rws} {W : World} (h : Rows B (rowsOf r exCf) W) : ∃ gk gl, r.aK = some ⟨gk, 0, none⟩ ∧ r.aL = some ⟨gl, 0, none⟩ ∧ gk < W.heap.size ∧ gl < W.heap.size ∧ 1 ≤ r.cK ∧ 1 ≤ r.cL ∧ W.cell? ⟨gk, 2, none⟩ = some (.int .i64 7) ∧ W.cell? ⟨gk, 3, none⟩ = some (.int .i64 7) ∧ W.cell? ⟨gl, 0, none⟩ = some (.string ⟨#[108]⟩) := by
 have hk := h.own ⟨44, 7, r.aK, r.cK, exCf.links.length, exCf.links.flatMap lkV⟩ (by simp [rowsOf])
 have hl := h.own ⟨9, 1, r.aL, r.cL, exCf.lnames.length, exCf.lnames.map strW⟩ (by simp [rowsOf])
 obtain ⟨gl, hl1, hl2, hl3, hl4⟩ := own_form (n := 0) hl
 rcases hk.2 with ⟨e, _⟩ | ⟨g, cap, cur, e, _, _, hle, _⟩
 ·injection e with _ e _; cases e
 ·injection e with e _ e2
  have hk' : W.ownsRow B 44 7 (.slice r.aK exCf.links.length r.cK) exCf.links.length (exCf.links.flatMap lkV) := hk
  rw [show r.aK = some ⟨g, 0, none⟩ from e] at hk'
  have hl' : W.ownsRow B 9 1 (.slice r.aL exCf.lnames.length r.cL) exCf.lnames.length (exCf.lnames.map strW) := hl
  rw [show r.aL = some ⟨gl, 0, none⟩ from hl1] at hl'
  refine ⟨g, gl, e, hl1, (hk'.lt g rfl).2, hl4, ?_, hl2, ?_, ?_, ?_⟩
  ·have : (1 : Nat) ≤ cap := hle
   have e3 : r.cK = cap := e2
   omega
  ·exact (hk'.cellAt 2 (by decide)).trans rfl
  ·exact (hk'.cellAt 3 (by decide)).trans rfl
  ·exact (hl'.cellAt 0 (by decide)).trans rfl
theorem neq_two77 (w : World) : (binOp .neq 42 (.agg #[.int .i64 7, .int .i64 7]) (.agg #[.int .i64 7, .int .i64 7])).run Tryz.prog w = .ok (.bool false) w := by kernel_rfl
structure AW (w W : World) : Prop where
 b : Below w.heap.size w W
 x : Boxed W w.heap.size 9 (.string ⟨exS.toArray⟩)
theorem AW.next {w W W' : World} (h : AW w W) (hb : Below W.heap.size W W') : AW w W' := ⟨below_next h.b hb, (hb.block _ h.x.lt).trans h.x⟩
set_option maxRecDepth 100000 in
set_option maxHeartbeats 4000000 in
theorem law15_awake (w : World) (hE : Errs w) (ht : Tab w.heap.size w) : Calls Tryz.prog 4 #[] w fun e w' => e = .returned (.bool true) ∧ Below w.heap.size w w' := by
 have hmf : ∀ (fn : Fn) (first cap : Array Value) (w : World), (Instr.makeFunc fn first cap).run Tryz.prog w = .ok (.func fn first cap) w := fun _ _ _ _ => rfl
 have hne := neq_two77
 have hb0 := below_box w (.cells #[.string ⟨exS.toArray⟩] 9)
 have HBX : Hid (Boxed (w.alloc (.cells #[.string ⟨exS.toArray⟩] 9)) w.heap.size 9 (.string ⟨exS.toArray⟩)) := Lib.hid (Boxed.new w _ _)
 have HB0 := Lib.hid hb0
 have HE := Lib.hid hE
 have HT := Lib.hid ht
 have HC := Lib.hid (config_ParseS exS (by decide) _ (hE.up hb0) (tab_up ht hb0 hb0.size))
 rw [exS_ok] at HC
 have HA := Lib.hid (fun bb w hb hE ht => law15_fails exA 8 exA_no bb w hb (by decide) hE ht)
 have HB := Lib.hid (fun bb w hb hE ht => law15_fails exB 9 exB_no bb w hb (by decide) hE ht)
 have HCC := Lib.hid (fun bb w hb hE ht => law15_fails exC 1 exC_no bb w hb (by decide) hE ht)
 have HD := Lib.hid (fun bb w hb hE ht => law15_fails exD 2 exD_no bb w hb (by decide) hE ht)
 clear hE ht hb0
 have HAW0 : Hid (AW w (w.alloc (.cells #[.string ⟨exS.toArray⟩] 9))) := Lib.hid ⟨HB0.out, HBX.out⟩
 clear HBX HB0
 unfold exS at HC
 unfold exA at HA
 unfold exB at HB
 unfold exC at HCC
 unfold exD at HD
 have HAW1 : Hid (∀ W', Below (w.alloc (.cells #[.string ⟨exS.toArray⟩] 9)).heap.size (w.alloc (.cells #[.string ⟨exS.toArray⟩] 9)) W' → AW w W') := Lib.hid fun W' h => HAW0.out.next h
 clear HAW0
 unfold exS at HAW1
 have HAWF : Hid (∀ X, AW w X → ∀ W', Below X.heap.size X W' → AW w W') := Lib.hid fun X h W' hb => h.next hb
 go_enter Tryz.func4, Tryz.ntmps4
 go_wp2_with (first | (go_at_call 5; refine HC.out.mono ?_; rintro e w1 ⟨⟨r, rfl, hrow, _⟩, hb1⟩; have HAW := Lib.hid (HAW1.out _ hb1); obtain ⟨gk, gl, hk, hl, hgk, hgl, hck, hcl, k2, k3, l0⟩ := ex_cells hrow; have hkn : gk ≠ w1.heap.size := Nat.ne_of_lt hgk; have hln : gl ≠ w1.heap.size := Nat.ne_of_lt hgl; rw [confV_ex, hk, hl]; clear hb1 hrow) | (go_at_call 9; with_reducible refine (HA.out _ _ (HAW.out.next (below_box w1 _)).x (HE.out.up (HAW.out.next (below_box w1 _)).b) (tab_up HT.out (HAW.out.next (below_box w1 _)).b (HAW.out.next (below_box w1 _)).b.size)).mono ?_; rintro e w5 ⟨rfl, hb5⟩; replace HAW := Lib.hid ((HAW.out.next (below_box w1 _)).next hb5); clear hb5) | (go_at_call 9; with_reducible refine (HB.out _ _ HAW.out.x (HE.out.up HAW.out.b) (tab_up HT.out HAW.out.b HAW.out.b.size)).mono ?_; rintro e w5 ⟨rfl, hb5⟩; replace HAW := Lib.hid (HAW.out.next hb5); clear hb5) | (go_at_call 9; with_reducible refine (HCC.out _ _ HAW.out.x (HE.out.up HAW.out.b) (tab_up HT.out HAW.out.b HAW.out.b.size)).mono ?_; rintro e w5 ⟨rfl, hb5⟩; replace HAW := Lib.hid (HAW.out.next hb5); clear hb5) | (go_at_call 9; with_reducible refine (HD.out _ _ HAW.out.x (HE.out.up HAW.out.b) (tab_up HT.out HAW.out.b HAW.out.b.size)).mono ?_; rintro e w5 ⟨rfl, hb5⟩; replace HAW := Lib.hid (HAW.out.next hb5); clear hb5))
 go_ret
 exact ⟨rfl, HAW.out.b⟩
end Go.Proofs.YtfimacgmciogmaaGreatDoor
namespace Go.Proofs.YtfimacgmciogmaaGreatDoor
set_option linter.unusedSimpArgs false
set_option linter.unusedVariables false
open Go.RowKit Go.Shelf Go.Sort
theorem confV_form (r : Rws) (c : Cf) : ∃ ao no co, confV r c = .agg #[.slice r.aN c.names.length r.cN, .slice r.aL c.lnames.length r.cL, .int .i64 (c.names.length : Int), .slice ao no co, .slice r.aK c.links.length r.cK, .slice r.aP c.pfx.length r.cP, .slice r.aQ c.pols.length r.cQ, .slice r.aD c.dems.length r.cD,
 .int .i64 (c.tm.getD 0 0), .int .i64 (c.tm.getD 1 0), .int .i64 (c.tm.getD 2 0), .int .i64 (c.tm.getD 3 0), .int .i64 (c.tm.getD 4 0)] := by
 unfold confV
 by_cases h : true ∈ c.ov
 ·exact ⟨_, _, _, by rw [if_pos h]⟩
 ·exact ⟨_, _, _, by rw [if_neg h]⟩
/-- A call that returns a configuration, its form alone. -/
def RetFo (w : World) (res : Except (Nat × Int) Cf) (e : Ending) (w' : World) : Prop :=
 (∃ a1 n1 k1 a2 n2 k2 m a3 n3 k3 a4 n4 k4 a5 n5 k5 a6 n6 k6 a7 n7 k7 t0 t1 t2 t3 t4, e = .returned (.tuple #[.agg #[.slice a1 n1 k1, .slice a2 n2 k2, .int .i64 m, .slice a3 n3 k3, .slice a4 n4 k4, .slice a5 n5 k5, .slice a6 n6 k6, .slice a7 n7 k7, .int .i64 t0, .int .i64 t1, .int .i64 t2, .int .i64 t3, .int .i64 t4],
  .int .i64 (match res with | .ok _ => 0 | .error p => (p.1 : Int)), .int .i64 (match res with | .ok _ => 0 | .error p => p.2)])) ∧ Below w.heap.size w w'
theorem RetCf.form {w w' : World} {res : Except (Nat × Int) Cf} {e : Ending} (h : RetCf w res e w') : RetFo w res e w' := by
 obtain ⟨h1, h2⟩ := h
 refine ⟨?_, h2⟩
 cases res with
 | ok c =>
  obtain ⟨r, rfl, _⟩ := h1
  obtain ⟨ao, no, co, e⟩ := confV_form r c
  rw [e]
  exact ⟨_, _, _, _, _, _, _, _, _, _, _, _, _, _, _, _, _, _, _, _, _, _, _, _, _, _, _, rfl⟩
 | error p =>
  obtain ⟨n, x⟩ := p
  simp only at h1
  rw [h1]
  exact ⟨_, _, _, _, _, _, _, _, _, _, _, _, _, _, _, _, _, _, _, _, _, _, _, _, _, _, _, rfl⟩
end Go.Proofs.YtfimacgmciogmaaGreatDoor
namespace Go.Proofs.YtfimacgmciogmaaGreatDoor
set_option linter.unusedSimpArgs false
set_option linter.unusedVariables false
open Go.RowKit Go.Sort Go.Shelf
theorem PT.grown {B b B' n : Nat} {l : List UInt8} {w w' : World} {o : Obj} {v : Value} {xs : List Value} (h : PT B b l w) (ho : w.ownsRow B' 9 1 v n xs) (hg : (w.alloc o).grownBy w' v.ownBlock) : PT B b l w' := by
 have key : ∀ (k : Nat) (cs : Array Value) (t : TypeId) (fr : Nat × Nat), w.heap[k]? = some (Obj.cells cs t fr) → t ≠ 9 → w'.heap[k]? = w.heap[k]? := by
  intro k cs t fr hk ht
  have hlt := lt_of_heap hk
  refine (hg.block k (by simp; omega) (fun e => ?_)).trans (Lib.alloc_old w o k hlt)
  rcases ho.2 with ⟨rfl, _⟩ | ⟨g, cap, cur, rfl, _, hg2, _⟩
  ·cases e
  ·simp [Value.ownBlock] at e
   subst e
   rw [hk] at hg2
   injection hg2 with hg2
   injection hg2 with _ hg2 _
   exact ht hg2
 have at_ : ∀ p, Lib.BuilderAt 65 5 B b p (Lib.byteCells l) w → Lib.BuilderAt 65 5 B b p (Lib.byteCells l) w' := by
  rintro p ⟨h1, v2, h2, h3, h4⟩
  refine ⟨h1, v2, (key b _ _ _ h2 (by decide)).trans h2, ⟨h3.1, ?_⟩, h4⟩
  rcases h3.2 with h3 | ⟨g, cap, cur, e1, e2, e3, e4⟩
  ·exact .inl h3
  ·exact .inr ⟨g, cap, cur, e1, e2, (key g _ _ _ e3 (by decide)).trans e3, e4⟩
 rcases h with h | h
 ·exact .inl (at_ _ h)
 ·exact .inr (at_ _ h)
theorem Rd.base {w : World} {A : Option Addr} {xs : List Value} (h : Rd w A xs) (hne : xs ≠ []) : ∃ b o, A = some ⟨b, o, none⟩ ∧ ∀ j u, xs[j]? = some u → w.cell? ⟨b, o + j, none⟩ = some u := by
 rcases h with h | h
 ·exact absurd h hne
 ·exact h
theorem rd_lit (w : World) (xs : List Value) (T : TypeId) : Rd (w.alloc (.cells xs.toArray T)) (some ⟨w.heap.size, 0, none⟩) xs := by
 refine .inr ⟨_, _, rfl, fun j u hu => ?_⟩
 rw [Nat.zero_add, Lib.cell_of_heap (heap_alloc_new w _)]
 simpa using hu
theorem line_bd {c : Cf} {j : Nat} {ws : List (List UInt8)} (h : (linesC c)[j]? = some ws) (hF : (printC c).length ≤ 10000000) : (txt c j).length + (Lib.join ws [32]).length + 1 ≤ 140737488355328 := by
 have h1 := txt_le c (j + 1)
 rw [txt_succ h, List.length_append, prnT, List.length_append] at h1
 simp at h1
 omega
theorem strs_at {w : World} {b o : Nat} {l : List (List UInt8)} (h : ∀ j u, (l.map strW)[j]? = some u → w.cell? ⟨b, o + j, none⟩ = some u) {j : Nat} {x : List UInt8} (hx : l[j]? = some x) : w.cell? ⟨b, o + j, none⟩ = some (.string ⟨x.toArray⟩) :=
 h j _ (by rw [List.getElem?_map, hx]; rfl)
theorem getN_nat {l : List (List UInt8)} {k : Nat} {x : List UInt8} (h : l[k]? = some x) : getN l (k : Int) = x := by simp [getN, List.getD_eq_getElem?_getD, h]
theorem nat_of {x n : Int} (h : 0 ≤ x ∧ x < n) : ∃ k : Nat, x = (k : Int) ∧ (k : Int) < n := ⟨x.toNat, by omega, by omega⟩
theorem get_some {α : Type} {l : List α} {k : Nat} (h : k < l.length) : ∃ x, l[k]? = some x := ⟨_, List.getElem?_eq_getElem h⟩
/-- What the walk names anew: where the rows begin, and the timers. -/
structure Eqs (r : Rws) (c : Cf) (AN AL AO AK AP AQ AD : Option Addr) (ol : Nat) (t0 t1 t2 t3 t4 : Int) : Prop where
 n : AN = r.aN
 l : AL = r.aL
 o : AO = r.aO
 k : AK = r.aK
 p : AP = r.aP
 q : AQ = r.aQ
 d : AD = r.aD
 ol : ol = c.ov.length
 t0 : t0 = c.tm.getD 0 0
 t1 : t1 = c.tm.getD 1 0
 t2 : t2 = c.tm.getD 2 0
 t3 : t3 = c.tm.getD 3 0
 t4 : t4 = c.tm.getD 4 0
section
variable {T : TypeId} {w : World} {n : Int} {r : Rws} {c : Cf} {W : World} {AN AL AO AK AP AQ AD : Option Addr} {ol : Nat} {t0 t1 t2 t3 t4 : Int}
theorem KC.g0 (h : KC T w n r c W) (e : Eqs r c AN AL AO AK AP AQ AD ol t0 t1 t2 t3 t4) : W.cell? ⟨w.heap.size, 0, none⟩ = some (.slice AN c.names.length r.cN) := by rw [e.n]; exact h.p 0
theorem KC.g1 (h : KC T w n r c W) (e : Eqs r c AN AL AO AK AP AQ AD ol t0 t1 t2 t3 t4) : W.cell? ⟨w.heap.size, 1, none⟩ = some (.slice AL c.lnames.length r.cL) := by rw [e.l]; exact h.p 1
theorem KC.g2 (h : KC T w n r c W) : W.cell? ⟨w.heap.size, 2, none⟩ = some (.int .i64 n) := h.p 2
theorem KC.g3 (h : KC T w n r c W) (e : Eqs r c AN AL AO AK AP AQ AD ol t0 t1 t2 t3 t4) : W.cell? ⟨w.heap.size, 3, none⟩ = some (.slice AO ol r.cO) := by rw [e.o, e.ol]; exact h.p 3
theorem KC.g4 (h : KC T w n r c W) (e : Eqs r c AN AL AO AK AP AQ AD ol t0 t1 t2 t3 t4) : W.cell? ⟨w.heap.size, 4, none⟩ = some (.slice AK c.links.length r.cK) := by rw [e.k]; exact h.p 4
theorem KC.g5 (h : KC T w n r c W) (e : Eqs r c AN AL AO AK AP AQ AD ol t0 t1 t2 t3 t4) : W.cell? ⟨w.heap.size, 5, none⟩ = some (.slice AP c.pfx.length r.cP) := by rw [e.p]; exact h.p 5
theorem KC.g6 (h : KC T w n r c W) (e : Eqs r c AN AL AO AK AP AQ AD ol t0 t1 t2 t3 t4) : W.cell? ⟨w.heap.size, 6, none⟩ = some (.slice AQ c.pols.length r.cQ) := by rw [e.q]; exact h.p 6
theorem KC.g7 (h : KC T w n r c W) (e : Eqs r c AN AL AO AK AP AQ AD ol t0 t1 t2 t3 t4) : W.cell? ⟨w.heap.size, 7, none⟩ = some (.slice AD c.dems.length r.cD) := by rw [e.d]; exact h.p 7
theorem KC.gt (h : KC T w n r c W) (e : Eqs r c AN AL AO AK AP AQ AD ol t0 t1 t2 t3 t4) : W.cell? ⟨w.heap.size, 8, none⟩ = some (.int .i64 t0) ∧ W.cell? ⟨w.heap.size, 9, none⟩ = some (.int .i64 t1) ∧ W.cell? ⟨w.heap.size, 10, none⟩ = some (.int .i64 t2) ∧ W.cell? ⟨w.heap.size, 11, none⟩ = some (.int .i64 t3) ∧ W.cell? ⟨w.heap.size, 12, none⟩ = some (.int .i64 t4) := by
 rw [e.t0, e.t1, e.t2, e.t3, e.t4]; exact ⟨h.p 8, h.p 9, h.p 10, h.p 11, h.p 12⟩
theorem Eqs.all (e : Eqs r c AN AL AO AK AP AQ AD ol t0 t1 t2 t3 t4) : (#[.slice AN c.names.length r.cN, .slice AL c.lnames.length r.cL, .int .i64 n, .slice AO ol r.cO, .slice AK c.links.length r.cK, .slice AP c.pfx.length r.cP, .slice AQ c.pols.length r.cQ, .slice AD c.dems.length r.cD, .int .i64 t0, .int .i64 t1, .int .i64 t2, .int .i64 t3, .int .i64 t4] : Array Value) = cfCells n r c := by
 rw [e.n, e.l, e.o, e.k, e.p, e.q, e.d, e.ol, e.t0, e.t1, e.t2, e.t3, e.t4]; rfl
end
theorem timerNames2 (w : World) : Calls Tryz.prog 18 #[] w fun e w' => e = .returned (.slice (some ⟨w.heap.size, 0, none⟩) 5 5) ∧ w' = w.alloc (.cells (tNames.map strW).toArray 9) := by
 go_enter Tryz.func18, Tryz.ntmps18
 go_wp2
 go_ret
 exact ⟨rfl, rfl⟩
theorem idx_gl (w : World) : (Instr.index 107 (.agg #[.string ⟨#[62]⟩, .string ⟨#[60]⟩]) (.int .i64 0)).run Tryz.prog w = .ok (.string ⟨#[62]⟩) w ∧ (Instr.index 107 (.agg #[.string ⟨#[62]⟩, .string ⟨#[60]⟩]) (.int .i64 1)).run Tryz.prog w = .ok (.string ⟨#[60]⟩) w := ⟨by kernel_rfl, by kernel_rfl⟩
set_option maxHeartbeats 4000000 in
set_option maxRecDepth 100000 in
theorem cfg_segmentText (n : Int) (r : Rws) (c : Cf) (s : Int × Int) (hn : (c.names.length : Int) = n) (hs : segB n c.lnames.length s = true) (hl256 : c.lnames.length ≤ 256) (hll : ∀ x ∈ c.names ++ c.lnames, x.length ≤ 16) (w : World) (h : CAt w r c) (ht : Tab w.heap.size w) :
  Calls Tryz.prog 17 #[.agg (cfCells n r c), .agg #[.int .i64 s.1, .int .i64 s.2]] w fun e w' => e = .returned (.string ⟨(segTx c s).toArray⟩) ∧ Below w.heap.size w w' := by
 obtain ⟨x, y⟩ := s
 simp only at *
 have HB := below_next (below_box w (.cells (cfCells n r c) 33)) (below_box _ (.cells #[.int .i64 x, .int .i64 y] 78))
 have HBX := Lib.hid HB
 have b0 : ((w.alloc (.cells (cfCells n r c) 33)).alloc (.cells #[.int .i64 x, .int .i64 y] 78)).cell? ⟨w.heap.size, 0, none⟩ = some (.slice r.aN c.names.length r.cN) := cell_up (below_box _ _) (Lib.cell_of_heap (heap_alloc_new w _) 0)
 have b1 : ((w.alloc (.cells (cfCells n r c) 33)).alloc (.cells #[.int .i64 x, .int .i64 y] 78)).cell? ⟨w.heap.size, 1, none⟩ = some (.slice r.aL c.lnames.length r.cL) := cell_up (below_box _ _) (Lib.cell_of_heap (heap_alloc_new w _) 1)
 have s1 : ((w.alloc (.cells (cfCells n r c) 33)).alloc (.cells #[.int .i64 x, .int .i64 y] 78)).cell? ⟨w.heap.size + 1, 1, none⟩ = some (.int .i64 y) := by simp
 have HC := Lib.hid (h.below HB)
 have HT := Lib.hid (tab_up ht HB HB.size)
 have hsc := segB_cases hs
 simp only at hsc
 have HLL := Lib.hid hll
 clear HB h ht hs hll
 rcases hsc with ⟨rfl, h2, h3⟩ | ⟨rfl, h2, h3⟩ | ⟨rfl, h2, h3⟩ | ⟨rfl, h2, h3⟩
 ·obtain ⟨k, rfl, hk⟩ := nat_of ⟨h2, h3⟩
  obtain ⟨z, hz⟩ := get_some (l := c.names) (k := k) (by omega)
  obtain ⟨b, o, hA, hc⟩ := HC.out.n.base (by intro e; have := congrArg List.length e; simp at this; rw [this] at hz; simp at hz)
  have d0 := strs_at hc hz
  rw [hA] at b0
  have hkl : (k : Int) < (c.names.length : Int) := by omega
  have HR : Hid (segTx c (1, (k : Int)) = z) := Lib.hid (by simp only [segTx, if_pos]; exact getN_nat hz)
  clear hc hA hz h2 h3 HC
  go_enter Tryz.func17, Tryz.ntmps17
  go_wp2_with fail
  go_ret
  exact ⟨by rw [HR.out]; rfl, HBX.out⟩
 ·obtain ⟨k, rfl, hk⟩ := nat_of ⟨h2, h3⟩
  obtain ⟨z, hz⟩ := get_some (l := c.lnames) (k := k / 2) (by omega)
  have hzl := HLL.out z (by have := List.mem_of_getElem? hz; simp [this])
  obtain ⟨b, o, hA, hc⟩ := HC.out.l.base (by intro e; have := congrArg List.length e; simp at this; rw [this] at hz; simp at hz)
  have d0 := strs_at hc hz
  rw [hA] at b1
  have hkl : ((k / 2 : Nat) : Int) < (c.lnames.length : Int) := by omega
  have hdv : wrap64 ((k : Int) / 2) = ((k / 2 : Nat) : Int) := by unfold wrap64; omega
  have hi := fun W => idx_gl W
  rcases (by omega : k % 2 = 0 ∨ k % 2 = 1) with hp | hp
  ·have HR : Hid (segTx c (2, (k : Int)) = z ++ [62]) := Lib.hid (by
    have e1 : (k : Int) / 2 = ((k / 2 : Nat) : Int) := rfl
    have e2 : (k : Int) % 2 = 0 := by omega
    simp only [segTx, show ¬ (2 : Int) = 1 by decide, if_false, if_true, e1, e2, getN_nat hz]
    rfl)
   have hmd : (k : Int) % 2 = 0 := by omega
   have hmw : wrap64 0 = 0 := by unfold wrap64; omega
   have hi0 := fun W => (hi W).1
   clear hc hA hz h2 h3 HC hi hp
   go_enter Tryz.func17, Tryz.ntmps17
   go_wp2_with fail
   have kq_b1 := cell_regrown b1
   have kq_d0 := cell_regrown d0
   have kq_s1 := cell_regrown s1
   refine wp_region_quiet_below (by kernel_rfl) (by kernel_rfl) ?_
   repeat (go_big_quiet_step (fail))
   refine wpQuiet_nil ?_
   intro w5 hb5
   replace hb5 := below_of_regrown hb5
   clear kq_b1 kq_d0 kq_s1
   replace b1 := cell_up hb5 b1
   replace d0 := cell_up hb5 d0
   replace s1 := cell_up hb5 s1
   go_wp2_with fail
   go_ret
   exact ⟨by rw [HR.out]; exact congrArg (fun b => Ending.returned (Value.string b)) (str_app _ _), below_next HBX.out hb5⟩
  ·have HR : Hid (segTx c (2, (k : Int)) = z ++ [60]) := Lib.hid (by
    have e1 : (k : Int) / 2 = ((k / 2 : Nat) : Int) := rfl
    have e2 : ¬ (k : Int) % 2 = 0 := by omega
    simp only [segTx, show ¬ (2 : Int) = 1 by decide, if_false, if_true, e1, e2, getN_nat hz]
    rfl)
   have hmd : (k : Int) % 2 = 1 := by omega
   have hmw : wrap64 1 = 1 := by unfold wrap64; omega
   have hi1 := fun W => (hi W).2
   clear hc hA hz h2 h3 HC hi hp
   go_enter Tryz.func17, Tryz.ntmps17
   go_wp2_with fail
   have kq_b1 := cell_regrown b1
   have kq_d0 := cell_regrown d0
   have kq_s1 := cell_regrown s1
   refine wp_region_quiet_below (by kernel_rfl) (by kernel_rfl) ?_
   repeat (go_big_quiet_step (fail))
   refine wpQuiet_nil ?_
   intro w5 hb5
   replace hb5 := below_of_regrown hb5
   clear kq_b1 kq_d0 kq_s1
   replace b1 := cell_up hb5 b1
   replace d0 := cell_up hb5 d0
   replace s1 := cell_up hb5 s1
   go_wp2_with fail
   go_ret
   exact ⟨by rw [HR.out]; exact congrArg (fun b => Ending.returned (Value.string b)) (str_app _ _), below_next HBX.out hb5⟩
 ·have HI := Lib.hid (fun W ht => strconv_Itoa y (by omega) (by omega) W.heap.size W ht)
  have hil := Lib.itoa_length_le y (by omega) (by omega)
  have HR : Hid (segTx c (3, y) = [97, 110, 121, 32] ++ Lib.itoa y) := Lib.hid rfl
  clear HC h2 h3
  go_enter Tryz.func17, Tryz.ntmps17
  go_wp2_with (go_at_call 15; (refine (HI.out _ HT.out).mono ?_); rintro e w5 ⟨rfl, hb5⟩)
  go_ret
  exact ⟨by rw [HR.out]; exact congrArg (fun b => Ending.returned (Value.string b)) (str_app _ _), below_next HBX.out hb5⟩
 ·have HI := Lib.hid (fun W ht => strconv_Itoa y (by omega) (by omega) W.heap.size W ht)
  have hil := Lib.itoa_length_le y (by omega) (by omega)
  have HR : Hid (segTx c (4, y) = [98, 105, 110, 100, 32] ++ Lib.itoa y) := Lib.hid rfl
  clear HC h2 h3
  go_enter Tryz.func17, Tryz.ntmps17
  go_wp2_with (go_at_call 15; (refine (HI.out _ HT.out).mono ?_); rintro e w5 ⟨rfl, hb5⟩)
  go_ret
  exact ⟨by rw [HR.out]; exact congrArg (fun b => Ending.returned (Value.string b)) (str_app _ _), below_next HBX.out hb5⟩
end Go.Proofs.YtfimacgmciogmaaGreatDoor
