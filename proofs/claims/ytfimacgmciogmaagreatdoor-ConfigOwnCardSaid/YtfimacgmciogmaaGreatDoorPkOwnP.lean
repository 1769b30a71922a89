/-
  Each printed line is read back.
  The printed text of a configuration is read back: parseC (printC c) has the contents of c.
  What is parsed, printed and parsed again has the same contents (the plain law of ConfigOwn).
  How long a printed text is.
  Contracts of topology.Same and waypointref09.Same, and of what they call: slices.Equal, slices.Index, slices.Contains, busy. Both return 'same t u'.
-/
import Derived.Test.YtfimacgmciogmaaGreatDoorPkCfgVp
import Derived.Test.YtfimacgmciogmaaGreatDoorPkPrnD
import Derived.Test.YtfimacgmciogmaaGreatDoorPkBase
import Derived.Laws.StructEq
import Derived.ChangeKeysEq
namespace Go.Proofs.YtfimacgmciogmaaGreatDoor
set_option linter.unusedSimpArgs false
set_option linter.unusedVariables false
open Go.RowKit Go.Sort Go.Shelf
theorem use_rd {dry : Bool} {sy : SymS} {kd v : Int} {x : List UInt8} {r : List (List UInt8)} (hx : namedB x = true) (hl : lookS sy x = some (kd, v)) : useS dry sy kd (x :: r) = .ok (v, r) := by
 simp [useS, hx, hl, useOf]
theorem expect_rd {w : List UInt8} {r : List (List UInt8)} : expectS w (w :: r) = .ok ((), r) := by simp [expectS]
theorem name_rd {x : List UInt8} {r : List (List UInt8)} (hx : namedB x = true) : nameS (x :: r) = .ok (x, r) := by simp [nameS, hx]
theorem bind_rd {α β : Type} {U : Except Int (α × List (List UInt8))} {f : α → List (List UInt8) → Except Int β} {v : α} {r : List (List UInt8)} (h : U = .ok (v, r)) : bindS U f = f v r := by rw [h]; rfl
theorem fin_rd {dry dup full : Bool} {c c' : Cf} (hd : dup = false) (hf : full = false) : effS (finP dry dup full []) c c' = .ok (if dry = true then c else c') := by
 subst hd hf; cases dry <;> rfl
theorem ln_node (dry : Bool) (d : Cf) (r : List (List UInt8)) : lineS dry d (kNode :: r) = nodeS dry d r := by rw [lineS, if_pos rfl]
theorem ln_link (dry : Bool) (d : Cf) (r : List (List UInt8)) : lineS dry d (kLink :: r) = linkS dry d r := by rw [lineS, if_neg (by decide), if_pos rfl]
theorem ln_prefix (dry : Bool) (d : Cf) (r : List (List UInt8)) : lineS dry d (kPrefix :: r) = prefixS dry d r := by rw [lineS, if_neg (by decide), if_neg (by decide), if_neg (by decide), if_pos rfl]
theorem ln_policy (dry : Bool) (d : Cf) (r : List (List UInt8)) : lineS dry d (kPolicy :: r) = policyS dry d r := by rw [lineS, if_neg (by decide), if_neg (by decide), if_neg (by decide), if_neg (by decide), if_pos rfl]
theorem ln_demand (dry : Bool) (d : Cf) (r : List (List UInt8)) : lineS dry d (kDemand :: r) = demandS dry d r := by rw [lineS, if_neg (by decide), if_neg (by decide), if_neg (by decide), if_neg (by decide), if_neg (by decide), if_pos rfl]
theorem ln_timer (dry : Bool) (d : Cf) (r : List (List UInt8)) : lineS dry d (kTimer :: r) = timerS dry d r := by rw [lineS, if_neg (by decide), if_neg (by decide), if_neg (by decide), if_neg (by decide), if_neg (by decide), if_neg (by decide), if_pos rfl]
theorem node_rd (dry : Bool) (d : Cf) {x : List UInt8} (o : Bool) (hx : namedB x = true) (hl : lookS d.sym x = none) (hn : d.names.length ≠ 64) :
  lineS dry d (kNode :: x :: (if o = true then [kOverload] else [])) = .ok (if dry = true then d else { d with sym := d.sym ++ [(x, (1, (d.names.length : Int)))], names := d.names ++ [x], ov := d.ov ++ [o] }) := by
 rw [ln_node, nodeS, name_rd hx]
 have h1 : (lookS d.sym x).isSome = false := by rw [hl]; rfl
 have h2 : decide (d.names.length = 64) = false := decide_eq_false hn
 cases o with
 | true =>
  simp only [if_true, acceptS]
  exact fin_rd h1 h2
 | false =>
  simp only [Bool.false_eq_true, if_false, acceptS]
  exact fin_rd h1 h2
def D (n : Int) : List UInt8 := Lib.decDigits n.natAbs
theorem opts_rd (dry : Bool) (sy : SymS) (f : Nat) (l : Lnk) {c0 c1 cp dl g : Int} (h0 : 1 ≤ c0 ∧ c0 ≤ 65535) (h1 : 1 ≤ c1 ∧ c1 ≤ 65535) (h2 : 0 ≤ cp ∧ cp ≤ 1048576) (h3 : 1 ≤ dl ∧ dl ≤ 65536) (h4 : 0 ≤ g ∧ g ≤ 64) :
  optsS dry sy (f + 5) [] l [kCost, D c0, kBack, D c1, kCapacity, D cp, kDelay, D dl, kGroup, D g] = .ok ({ l with c0 := c0, c1 := c1, cap := cp, dl := dl, g := g }, []) := by
 unfold D
 rw [optsS, if_neg (by decide), if_pos rfl, bind_rd (value_dec dry sy (by omega) (by omega) h0 rfl)]
 simp only [acceptS, if_true]
 rw [bind_rd (value_dec dry sy (by omega) (by omega) h1 rfl)]
 rw [optsS, if_neg (by decide), if_neg (by decide), if_pos rfl, bind_rd (value_dec dry sy (by omega) (by omega) h2 rfl)]
 rw [optsS, if_neg (by decide), if_neg (by decide), if_neg (by decide), if_pos rfl, bind_rd (value_dec dry sy (by omega) (by omega) h3 rfl)]
 rw [optsS, if_neg (by decide), if_neg (by decide), if_neg (by decide), if_neg (by decide), if_pos rfl, bind_rd (value_dec dry sy (by omega) (by omega) h4 rfl)]
 rw [optsS]
theorem ends_rd {dry : Bool} {sy : SymS} {xa xb : List UInt8} {a b : Int} {r : List (List UInt8)} (ha : namedB xa = true) (hb : namedB xb = true) (hla : lookS sy xa = some (1, a)) (hlb : lookS sy xb = some (1, b)) (hne : a ≠ b) :
  endsS dry sy (kFrom :: xa :: kTo :: xb :: r) = .ok ((a, b), r) := by
 have e : (a != b) = true := by simpa using hne
 rw [endsS, bind_rd expect_rd, bind_rd (use_rd ha hla), bind_rd expect_rd, bind_rd (use_rd hb hlb), e]
 cases dry <;> rfl
theorem link_rd (dry : Bool) (d : Cf) {x xa xb : List UInt8} {l : Lnk} (hx : namedB x = true) (ha : namedB xa = true) (hb : namedB xb = true) (hl : lookS d.sym x = none) (hla : lookS d.sym xa = some (1, l.a)) (hlb : lookS d.sym xb = some (1, l.b)) (hok : ∃ n, lnkOk n l = true) (hn : d.lnames.length ≠ 256) :
  lineS dry d [kLink, x, kFrom, xa, kTo, xb, kCost, D l.c0, kBack, D l.c1, kCapacity, D l.cap, kDelay, D l.dl, kGroup, D l.g] = .ok (if dry = true then d else { d with sym := d.sym ++ [(x, (2, (d.lnames.length : Int)))], lnames := d.lnames ++ [x], links := d.links ++ [l] }) := by
 obtain ⟨n, hok⟩ := hok
 obtain ⟨hne, _, _, h0, h1, h2, h3, h4⟩ := lnkOk_iff.1 hok
 rw [ln_link, linkS, bind_rd (name_rd hx), bind_rd (ends_rd ha hb hla hlb hne)]
 refine (bind_rd (opts_rd dry d.sym 6 ⟨l.a, l.b, 1, 1, 0, 1, 0⟩ h0 h1 h2 h3 h4)).trans ?_
 rw [linkK]
 exact fin_rd (by rw [hl]; rfl) (decide_eq_false hn)
theorem prefix_rd (dry : Bool) (d : Cf) {w xa : List UInt8} {x y n : Int} (hp : pparseS w = some (x, y)) (ha : namedB xa = true) (hla : lookS d.sym xa = some (1, n)) (hd : (x, y) ∉ d.xk) (hc : cntP n d.pfx ≠ 64) :
  lineS dry d [kPrefix, w, kAt, xa] = .ok (if dry = true then d else { d with xk := d.xk ++ [(x, y)], pfx := d.pfx ++ [(x, y, n)] }) := by
 rw [ln_prefix, prefixS, bind_rd (show nextS [w, kAt, xa] = .ok (w, [kAt, xa]) from rfl)]
 simp only [hp]
 rw [bind_rd expect_rd, bind_rd (use_rd ha hla)]
 exact fin_rd (decide_eq_false hd) (decide_eq_false hc)
theorem demand_rd (dry : Bool) (d : Cf) {xa xb : List UInt8} {a b n p : Int} (ha : namedB xa = true) (hb : namedB xb = true) (hla : lookS d.sym xa = some (1, a)) (hlb : lookS d.sym xb = some (1, b)) (hne : a ≠ b) (hn : 1 ≤ n ∧ n ≤ 1048576) (hp : 0 ≤ p ∧ p ≤ 7) (hc : d.dems.length ≠ 64) :
  lineS dry d [kDemand, kFrom, xa, kTo, xb, kAmount, D n, kPriority, D p] = .ok (if dry = true then d else { d with dems := d.dems ++ [(a, b, n, p)] }) := by
 unfold D
 rw [ln_demand, demandS, bind_rd (ends_rd ha hb hla hlb hne), bind_rd expect_rd, bind_rd (value_dec dry d.sym (by omega) (by omega) hn rfl)]
 have e : prioS dry d.sym [kPriority, Lib.decDigits p.natAbs] = .ok (p, []) := by
  rw [prioS]
  simp only [acceptS, if_true]
  exact value_dec dry d.sym (by omega) (by omega) hp rfl
 rw [bind_rd e]
 exact fin_rd rfl (decide_eq_false hc)
theorem idx_t {k : Nat} (hk : k < 5) : idxS tNames (tNames.getD k []) 0 = (k : Int) := by
 rcases (by omega : k = 0 ∨ k = 1 ∨ k = 2 ∨ k = 3 ∨ k = 4) with rfl | rfl | rfl | rfl | rfl <;> rfl
theorem timer_rd (dry : Bool) (d : Cf) {k : Nat} {n : Int} (hk : k < 5) (hn : 1 ≤ n ∧ n ≤ 65536) (hg : d.giv.getD k false = false) :
  lineS dry d [kTimer, tNames.getD k [], kEq, D n] = .ok (if dry = true then d else { d with giv := d.giv.set k true, tm := d.tm.set k n }) := by
 unfold D
 rw [ln_timer, timerS, bind_rd (show nextS [tNames.getD k [], kEq, Lib.decDigits n.natAbs] = .ok (tNames.getD k [], [kEq, Lib.decDigits n.natAbs]) from rfl)]
 rw [idx_t hk, timerB, if_neg (by omega), Int.toNat_natCast, timerK, bind_rd expect_rd, bind_rd (value_dec dry d.sym (by omega) (by omega) hn rfl)]
 exact fin_rd hg rfl
/-! Policies. -/
theorem named_nokey {x : List UInt8} (h : namedB x = true) : x ≠ kAny ∧ x ≠ kBind ∧ x ≠ [62] ∧ x ≠ [60] := by
 obtain ⟨_, h2, h3⟩ := named_parts h
 refine ⟨?_, ?_, ?_, ?_⟩
 ·rintro rfl; exact h3 (by decide)
 ·rintro rfl; exact h3 (by decide)
 ·rintro rfl; exact absurd (h2 62 (by simp)) (by decide)
 ·rintro rfl; exact absurd (h2 60 (by simp)) (by decide)
theorem named_rank {x : List UInt8} (h : namedB x = true) (hn : x ≠ oNeg) : rankS x = 0 := by
 obtain ⟨_, h2, _⟩ := named_parts h
 have key : ∀ c : UInt8, ¬ ((97 ≤ c.toNat ∧ c.toNat ≤ 122) ∨ (48 ≤ c.toNat ∧ c.toNat ≤ 57) ∨ c.toNat = 95) → x ≠ [c] := by
  intro c hc e; subst e; exact hc (h2 c (by simp))
 unfold rankS
 rw [if_neg (by rintro (e | e); (· exact key 43 (by decide) e); (· exact key 45 (by decide) e)), if_neg (show ¬ x = oStar from key 42 (by decide)), if_neg hn]
/-- What the segments of a list lean on, when they are read. -/
structure SegsIn (c d : Cf) : Prop where
 nm : ∀ x ∈ c.names ++ c.lnames, namedB x = true
 s1 : ∀ (k : Nat) x, c.names[k]? = some x → lookS d.sym x = some (1, (k : Int))
 s2 : ∀ (k : Nat) x, c.lnames[k]? = some x → lookS d.sym x = some (2, (k : Int))
 l256 : c.lnames.length ≤ 256
theorem SegsIn.n1 {c d : Cf} (h : SegsIn c d) {i : Int} (h0 : 0 ≤ i) (h1 : i < (c.names.length : Int)) : namedB (getN c.names i) = true ∧ lookS d.sym (getN c.names i) = some (1, i) := by
 obtain ⟨k, rfl, hk⟩ := nat_of ⟨h0, h1⟩
 obtain ⟨x, hx⟩ := get_some (l := c.names) (k := k) (by omega)
 rw [getN_nat hx]
 exact ⟨h.nm x (List.mem_append.2 (.inl (List.mem_of_getElem? hx))), h.s1 k x hx⟩
theorem SegsIn.n2 {c d : Cf} (h : SegsIn c d) {i : Int} (h0 : 0 ≤ i) (h1 : i < (c.lnames.length : Int)) : namedB (getN c.lnames i) = true ∧ lookS d.sym (getN c.lnames i) = some (2, i) := by
 obtain ⟨k, rfl, hk⟩ := nat_of ⟨h0, h1⟩
 obtain ⟨x, hx⟩ := get_some (l := c.lnames) (k := k) (by omega)
 rw [getN_nat hx]
 exact ⟨h.nm x (List.mem_append.2 (.inr (List.mem_of_getElem? hx))), h.s2 k x hx⟩
/-- The first word of the segments that are left. -/
theorem segs_head {c d : Cf} (h : SegsIn c d) {l : List (Int × Int)} (hs : ∀ s ∈ l, segB (c.names.length : Int) c.lnames.length s = true) :
  (peekS (l.flatMap (segT2 c)) ≠ [62] ∧ peekS (l.flatMap (segT2 c)) ≠ [60]) ∧ ((∀ t, l.head? = some t → headW c t ≠ oNeg) → rankS (peekS (l.flatMap (segT2 c))) = 0) := by
 cases l with
 | nil => exact ⟨⟨by rw [List.flatMap_nil]; decide, by rw [List.flatMap_nil]; decide⟩, fun _ => rfl⟩
 | cons s r =>
  have hs0 := hs s (by simp)
  rw [List.flatMap_cons]
  rcases segB_cases hs0 with ⟨h1, h2, h3⟩ | ⟨h1, h2, h3⟩ | ⟨h1, h2, h3⟩ | ⟨h1, h2, h3⟩
  ·have e : peekS (segT2 c s ++ r.flatMap (segT2 c)) = getN c.names s.2 := by simp only [segT2, h1, if_true]; rfl
   rw [e]
   have hn := (h.n1 h2 h3).1
   have := named_nokey hn
   refine ⟨⟨this.2.2.1, this.2.2.2⟩, fun ht => named_rank hn ?_⟩
   have h9 := ht s rfl
   simp only [headW, h1, if_true] at h9
   exact h9
  ·have e : peekS (segT2 c s ++ r.flatMap (segT2 c)) = getN c.lnames (s.2 / 2) := by simp only [segT2, h1, show ¬ (2 : Int) = 1 by decide, if_false, if_true]; rfl
   rw [e]
   have hn := (h.n2 (i := s.2 / 2) (by omega) (by omega)).1
   have := named_nokey hn
   refine ⟨⟨this.2.2.1, this.2.2.2⟩, fun ht => named_rank hn ?_⟩
   have h9 := ht s rfl
   simp only [headW, h1, show ¬ (2 : Int) = 1 by decide, if_false, if_true] at h9
   exact h9
  ·have e : peekS (segT2 c s ++ r.flatMap (segT2 c)) = kAny := by simp only [segT2, h1, show ¬ (3 : Int) = 1 by decide, show ¬ (3 : Int) = 2 by decide, if_false, if_true]; rfl
   rw [e]
   exact ⟨⟨by decide, by decide⟩, fun _ => by decide⟩
  ·have e : peekS (segT2 c s ++ r.flatMap (segT2 c)) = kBind := by simp only [segT2, h1, show ¬ (4 : Int) = 1 by decide, show ¬ (4 : Int) = 2 by decide, show ¬ (4 : Int) = 3 by decide, if_false]; rfl
   rw [e]
   exact ⟨⟨by decide, by decide⟩, fun _ => by decide⟩
theorem sec_peek {x : List UInt8} {r : List (List UInt8)} (h1 : peekS r ≠ [62]) (h2 : peekS r ≠ [60]) : secB (x :: r) = false := by
 cases r with
 | nil => rfl
 | cons y q => rw [secB]; exact decide_eq_false (by rintro (e | e); (· exact h1 e); (· exact h2 e))
theorem seg_rd {dry : Bool} {c d : Cf} (h : SegsIn c d) {s : Int × Int} {l : List (Int × Int)} (hs : segB (c.names.length : Int) c.lnames.length s = true) (hl : ∀ t ∈ l, segB (c.names.length : Int) c.lnames.length t = true) (hneg : (s.1 = 3 ∨ s.1 = 4) → ∀ t, l.head? = some t → headW c t ≠ oNeg) :
  segS dry d.sym (segT2 c s ++ l.flatMap (segT2 c)) = .ok (s, l.flatMap (segT2 c)) := by
 obtain ⟨⟨g1, g2⟩, g3⟩ := segs_head h hl
 have h256 := h.l256
 generalize l.flatMap (segT2 c) = R at g1 g2 g3
 obtain ⟨s1, s2⟩ := s
 have hc := segB_cases hs
 simp only at hc hneg
 rcases hc with ⟨rfl, h2, h3⟩ | ⟨rfl, h2, h3⟩ | ⟨rfl, h2, h3⟩ | ⟨rfl, h2, h3⟩
 ·obtain ⟨n1, n2⟩ := h.n1 h2 h3
  have nk := named_nokey n1
  simp only [segT2, if_true, List.singleton_append, segS, acceptS, if_neg nk.1, if_neg nk.2.1, sec_peek g1 g2, Bool.false_eq_true, if_false]
  rw [bind_rd (use_rd n1 n2)]
 ·obtain ⟨n1, n2⟩ := h.n2 (i := s2 / 2) (by omega) (by omega)
  have nk := named_nokey n1
  have e2 : wrap64 (2 * (s2 / 2)) = 2 * (s2 / 2) := by unfold wrap64; omega
  have e3 : wrap64 (2 * (s2 / 2) + 1) = 2 * (s2 / 2) + 1 := by unfold wrap64; omega
  by_cases hp : s2 % 2 = 0
  ·simp only [segT2, show ¬ (2 : Int) = 1 by decide, if_false, if_true, hp, List.cons_append, List.nil_append, segS, acceptS, if_neg nk.1, if_neg nk.2.1]
   rw [if_pos (by rfl), bind_rd (use_rd n1 n2), bind_rd (show nextS (kGt :: R) = .ok (kGt, R) from rfl), if_neg (by decide), e2]
   congr 3
   omega
  ·simp only [segT2, show ¬ (2 : Int) = 1 by decide, if_false, if_true, hp, List.cons_append, List.nil_append, segS, acceptS, if_neg nk.1, if_neg nk.2.1]
   rw [if_pos (by rfl), bind_rd (use_rd n1 n2), bind_rd (show nextS (kLt :: R) = .ok (kLt, R) from rfl), if_pos (by rfl), e2, e3]
   congr 3
   omega
 ·simp only [segT2, show ¬ (3 : Int) = 1 by decide, show ¬ (3 : Int) = 2 by decide, if_false, if_true, List.cons_append, List.nil_append, segS, acceptS]
  rw [bind_rd (value_dec dry d.sym (by omega) (by omega) ⟨h2, h3⟩ (g3 (hneg (.inl rfl))))]
 ·simp only [segT2, show ¬ (4 : Int) = 1 by decide, show ¬ (4 : Int) = 2 by decide, show ¬ (4 : Int) = 3 by decide, if_false, List.cons_append, List.nil_append, segS, acceptS, show ¬ kBind = kAny by decide, if_true]
  rw [bind_rd (value_dec dry d.sym (by omega) (by omega) ⟨h2, h3⟩ (g3 (hneg (.inr rfl))))]
theorem segT2_cons (c : Cf) (s : Int × Int) : ∃ w t, segT2 c s = w :: t := by
 unfold segT2
 split
 ·exact ⟨_, _, rfl⟩
 ·split
  ·exact ⟨_, _, rfl⟩
  ·split <;> exact ⟨_, _, rfl⟩
theorem segs_rd {dry : Bool} {c d : Cf} (h : SegsIn c d) : ∀ (l acc : List (Int × Int)) (f : Nat), l.length < f → (∀ t ∈ l, segB (c.names.length : Int) c.lnames.length t = true) → negOk c l → segsS dry d.sym f acc (l.flatMap (segT2 c)) = .ok (acc ++ l, [])
 | [], acc, 0, hf, _, _ => by simp at hf
 | [], acc, f + 1, _, _, _ => by simp [segsS]
 | s :: l, acc, 0, hf, _, _ => by simp at hf
 | s :: l, acc, f + 1, hf, hs, hn => by
  have hg := seg_rd (dry := dry) h (hs s (by simp)) (fun t ht => hs t (by simp [ht])) hn.1
  obtain ⟨w, t, e⟩ := segT2_cons c s
  rw [List.flatMap_cons, e, List.cons_append, segsS, ← List.cons_append, ← e, bind_rd hg]
  rw [segs_rd h l (acc ++ [s]) f (by simp at hf; omega) (fun t ht => hs t (by simp [ht])) hn.2]
  simp
theorem toks_len (c : Cf) : ∀ l : List (Int × Int), l.length ≤ (l.flatMap (segT2 c)).length
 | [] => Nat.le_refl _
 | s :: l => by
  obtain ⟨w, t, e⟩ := segT2_cons c s
  have := toks_len c l
  rw [List.flatMap_cons, List.length_append, e, List.length_cons, List.length_cons]
  omega
theorem policy_rd (dry : Bool) {c d : Cf} (h : SegsIn c d) {a b : Int} {l : List (Int × Int)} (ha : 0 ≤ a ∧ a < (c.names.length : Int)) (hb : 0 ≤ b ∧ b ≤ 65535) (hl : l.length ≤ 32) (hs : ∀ t ∈ l, segB (c.names.length : Int) c.lnames.length t = true) (hn : negOk c l) (hk : (a, b) ∉ d.yk) (hp : d.pols.length ≠ 64) :
  lineS dry d ([kPolicy, getN c.names a, D b, kEq] ++ l.flatMap (segT2 c)) = .ok (if dry = true then d else { d with yk := d.yk ++ [(a, b)], pols := d.pols ++ [(a, b, l)] }) := by
 unfold D
 obtain ⟨n1, n2⟩ := h.n1 ha.1 ha.2
 simp only [List.cons_append, List.nil_append]
 rw [ln_policy, policyS, bind_rd (use_rd n1 n2), bind_rd (value_dec dry d.sym (by omega) (by omega) hb (by rfl)), bind_rd expect_rd, bind_rd (segs_rd h l [] _ (by have := toks_len c l; omega) hs hn)]
 rw [List.nil_append]
 exact fin_rd (decide_eq_false hk) (by rw [decide_eq_false hp, decide_eq_false (by omega)]; rfl)
end Go.Proofs.YtfimacgmciogmaaGreatDoor
namespace Go.Proofs.YtfimacgmciogmaaGreatDoor
set_option linter.unusedSimpArgs false
set_option linter.unusedVariables false
open Go.RowKit Go.Sort Go.Shelf
def ovs (c : Cf) : List Bool := mapR c.names.length fun k => c.ov.getD k false
/-- How far the text of c has been read. -/
structure RS (c : Cf) (a b p q e t : Nat) (d : Cf) : Prop where
 names : d.names = c.names.take a
 ov : d.ov = (ovs c).take a
 lnames : d.lnames = c.lnames.take b
 links : d.links = c.links.take b
 pfx : d.pfx = c.pfx.take p
 xk : d.xk = (c.pfx.take p).map fkey
 pols : d.pols = c.pols.take q
 yk : d.yk = (c.pols.take q).map pkey
 dems : d.dems = c.dems.take e
 tm : ∀ k, k < t → d.tm.getD k 0 = c.tm.getD k 0
 tl : d.tm.length = 5
 giv : ∀ k, t ≤ k → d.giv.getD k false = false
 gl : d.giv.length = 5
 s1 : ∀ (k : Nat) x, (c.names.take a)[k]? = some x → lookS d.sym x = some (1, (k : Int))
 s2 : ∀ (k : Nat) x, (c.lnames.take b)[k]? = some x → lookS d.sym x = some (2, (k : Int))
 s3 : ∀ x, x ∉ c.names.take a → x ∉ c.lnames.take b → lookS d.sym x = none
theorem rs0 (c : Cf) : RS c 0 0 0 0 0 0 c0 := by
 refine ⟨by simp [c0], by simp [c0], by simp [c0], by simp [c0], by simp [c0], by simp [c0], by simp [c0], by simp [c0], by simp [c0], fun k hk => by omega, rfl, fun k _ => ?_, rfl, fun k x h => by simp at h, fun k x h => by simp at h, fun x _ _ => rfl⟩
 show ([false, false, false, false, false] : List Bool).getD k false = false
 match k with
 | 0 => rfl
 | 1 => rfl
 | 2 => rfl
 | 3 => rfl
 | 4 => rfl
 | _ + 5 => rfl
theorem take_snoc {α : Type} {l : List α} {k : Nat} {x : α} (h : l[k]? = some x) : l.take (k + 1) = l.take k ++ [x] := by
 obtain ⟨h1, h2⟩ := List.getElem?_eq_some_iff.1 h
 rw [List.take_succ_eq_append_getElem h1, h2]
theorem snoc_at {α : Type} {l : List α} {k j : Nat} {x y : α} (hk : l.length = k) (h : (l ++ [x])[j]? = some y) : (j < k ∧ l[j]? = some y) ∨ (j = k ∧ x = y) := by
 by_cases hj : j < k
 ·rw [List.getElem?_append_left (by omega)] at h; exact .inl ⟨hj, h⟩
 ·rw [List.getElem?_append_right (by omega)] at h
  have h1 := (List.getElem?_eq_some_iff.1 h).1
  simp at h1
  have e : j = k := by omega
  subst e
  rw [hk, Nat.sub_self] at h
  simp at h
  exact .inr ⟨rfl, h⟩
theorem nodup_take {α : Type} {l : List α} (h : l.Nodup) {k : Nat} {x : α} (hx : l[k]? = some x) : x ∉ l.take k := by
 intro hm
 obtain ⟨i, hi, e⟩ := List.mem_take_iff_getElem.1 hm
 obtain ⟨h1, h2⟩ := List.getElem?_eq_some_iff.1 hx
 have := List.getElem_inj h (i := i) (j := k) (h₀ := by omega) (h₁ := h1)
 have h3 := this.1 (by rw [e, h2])
 omega
/-- What the text's configuration is known to be. -/
structure RC (n : Int) (c : Cf) : Prop where
 ok : CfOk n c
 pp : ∀ p ∈ c.pfx, pparseS (ptextS p.1 p.2.1) = some (p.1, p.2.1)
 ng : ∀ p ∈ c.pols, negOk c p.2.2
 tl : c.tm.length = 5
theorem RC.nm {n : Int} {c : Cf} (h : RC n c) : ∀ x ∈ c.names ++ c.lnames, namedB x = true := (nmK_iff.1 h.ok.nm).1
theorem RC.nd {n : Int} {c : Cf} (h : RC n c) : (c.names ++ c.lnames).Nodup := (nmK_iff.1 h.ok.nm).2.2
theorem RC.disj {n : Int} {c : Cf} (h : RC n c) {x : List UInt8} (h1 : x ∈ c.names) (h2 : x ∈ c.lnames) : False := by
 have := (List.nodup_append.1 h.nd).2.2
 exact this x h1 x h2 rfl
theorem rs_node {n : Int} {c d : Cf} (h : RC n c) {k : Nat} (hk : k < c.names.length) (hr : RS c k 0 0 0 0 0 d) :
  ∃ d', lineS true d (nodeW c k) = .ok d ∧ lineS false d (nodeW c k) = .ok d' ∧ RS c (k + 1) 0 0 0 0 0 d' := by
 obtain ⟨x, hx⟩ := get_some (l := c.names) (k := k) hk
 have hg : c.names.getD k [] = x := by simp [List.getD_eq_getElem?_getD, hx]
 have hnx := h.nm x (List.mem_append.2 (.inl (List.mem_of_getElem? hx)))
 have hnd := (List.nodup_append.1 h.nd).1
 have hout := nodup_take hnd hx
 have hl : lookS d.sym x = none := hr.s3 x hout (by simp)
 have hdl : d.names.length = k := by rw [hr.names, List.length_take]; omega
 have h64 := h.ok.n2
 have hnn := h.ok.nn
 have hW : nodeW c k = kNode :: x :: (if c.ov.getD k false = true then [kOverload] else []) := by
  unfold nodeW
  rw [hg]
  split <;> rfl
 have ho : (ovs c)[k]? = some (c.ov.getD k false) := mapR_at hk
 have hrd := fun dry => node_rd dry d (c.ov.getD k false) hnx hl (by omega)
 refine ⟨_, by rw [hW, hrd true, if_pos rfl], by rw [hW, hrd false, if_neg (by decide)], ?_⟩
 refine { hr with names := ?_, ov := ?_, s1 := ?_, s2 := ?_, s3 := ?_ }
 ·simp only; rw [hr.names, take_snoc hx]
 ·simp only; rw [hr.ov, take_snoc ho]
 ·intro j y hy
  rw [take_snoc hx] at hy
  rcases snoc_at (k := k) (by rw [List.length_take]; omega) hy with ⟨hj, hy⟩ | ⟨rfl, rfl⟩
  ·exact look_old (hr.s1 j y hy)
  ·simp only; rw [look_new hl, hdl]
 ·intro j y hy; simp at hy
 ·intro y hy1 hy2
  rw [take_snoc hx] at hy1
  simp only [List.mem_append, List.mem_cons, List.not_mem_nil, or_false, not_or] at hy1
  simp only
  rw [lookS_app, hr.s3 y hy1.1 hy2]
  simp only
  rw [if_neg (fun e => hy1.2 e.symm)]
def linkT (c : Cf) (k : Nat) : List (List UInt8) :=
 let l := c.links.getD k default
 [kLink, c.lnames.getD k [], kFrom, getN c.names l.a, kTo, getN c.names l.b, kCost, D l.c0, kBack, D l.c1, kCapacity, D l.cap, kDelay, D l.dl, kGroup, D l.g]
theorem RS.segs {n : Int} {c d : Cf} (h : RC n c) {p q e t : Nat} (hr : RS c c.names.length c.lnames.length p q e t d) : SegsIn c d :=
 ⟨h.nm, fun k x hx => hr.s1 k x (by rw [List.take_length]; exact hx), fun k x hx => hr.s2 k x (by rw [List.take_length]; exact hx), by have := h.ok.ln; have := h.ok.lk; omega⟩
theorem rs_name {n : Int} {c d : Cf} (h : RC n c) {b p q e t : Nat} (hr : RS c c.names.length b p q e t d) {i : Int} (h0 : 0 ≤ i ∧ i < n) : namedB (getN c.names i) = true ∧ lookS d.sym (getN c.names i) = some (1, i) := by
 have hnn := h.ok.nn
 obtain ⟨k, rfl, hk⟩ := nat_of h0
 obtain ⟨x, hx⟩ := get_some (l := c.names) (k := k) (by omega)
 rw [getN_nat hx]
 exact ⟨h.nm x (List.mem_append.2 (.inl (List.mem_of_getElem? hx))), hr.s1 k x (by rw [List.take_length]; exact hx)⟩
theorem rs_link {n : Int} {c d : Cf} (h : RC n c) {k : Nat} (hk : k < c.links.length) (hr : RS c c.names.length k 0 0 0 0 d) :
  ∃ d', lineS true d (linkT c k) = .ok d ∧ lineS false d (linkT c k) = .ok d' ∧ RS c c.names.length (k + 1) 0 0 0 0 d' := by
 have hln := h.ok.ln
 have hlk := h.ok.lk
 obtain ⟨x, hx⟩ := get_some (l := c.lnames) (k := k) (by omega)
 obtain ⟨l, hl2⟩ := get_some (l := c.links) (k := k) hk
 have hg : c.lnames.getD k [] = x := by simp [List.getD_eq_getElem?_getD, hx]
 have hgl : c.links.getD k default = l := by simp [List.getD_eq_getElem?_getD, hl2]
 have hxm := List.mem_of_getElem? hx
 have hnx := h.nm x (List.mem_append.2 (.inr hxm))
 have hnd := (List.nodup_append.1 h.nd).2.1
 have hout := nodup_take hnd hx
 have hl : lookS d.sym x = none := hr.s3 x (by rw [List.take_length]; exact fun hm => h.disj hm hxm) hout
 have hdl : d.lnames.length = k := by rw [hr.lnames, List.length_take]; omega
 have hlf := h.ok.link (List.mem_of_getElem? hl2)
 obtain ⟨a1, a2⟩ := rs_name h hr hlf.2.1
 obtain ⟨b1, b2⟩ := rs_name h hr hlf.2.2.1
 have hrd := fun dry => link_rd dry d hnx a1 b1 hl a2 b2 ⟨n, h.ok.kk l (List.mem_of_getElem? hl2)⟩ (by omega)
 have hW : linkT c k = [kLink, x, kFrom, getN c.names l.a, kTo, getN c.names l.b, kCost, D l.c0, kBack, D l.c1, kCapacity, D l.cap, kDelay, D l.dl, kGroup, D l.g] := by
  unfold linkT; rw [hg, hgl]
 refine ⟨_, by rw [hW, hrd true, if_pos rfl], by rw [hW, hrd false, if_neg (by decide)], ?_⟩
 refine { hr with lnames := ?_, links := ?_, s1 := ?_, s2 := ?_, s3 := ?_ }
 ·simp only; rw [hr.lnames, take_snoc hx]
 ·simp only; rw [hr.links, take_snoc hl2]
 ·intro j y hy; exact look_old (hr.s1 j y hy)
 ·intro j y hy
  rw [take_snoc hx] at hy
  rcases snoc_at (k := k) (by rw [List.length_take]; omega) hy with ⟨hj, hy⟩ | ⟨rfl, rfl⟩
  ·exact look_old (hr.s2 j y hy)
  ·simp only; rw [look_new hl, hdl]
 ·intro y hy1 hy2
  rw [take_snoc hx] at hy2
  simp only [List.mem_append, List.mem_cons, List.not_mem_nil, or_false, not_or] at hy2
  simp only
  rw [lookS_app, hr.s3 y hy1 hy2.1]
  simp only
  rw [if_neg (fun e => hy2.2 e.symm)]
theorem rs_pfx {n : Int} {c d : Cf} (h : RC n c) {k : Nat} (hk : k < c.pfx.length) (hr : RS c c.names.length c.links.length k 0 0 0 d) :
  ∃ d', lineS true d (pfxW c k) = .ok d ∧ lineS false d (pfxW c k) = .ok d' ∧ RS c c.names.length c.links.length (k + 1) 0 0 0 d' := by
 obtain ⟨p, hp⟩ := get_some (l := c.pfx) (k := k) hk
 have hg : c.pfx.getD k (0, 0, 0) = p := by simp [List.getD_eq_getElem?_getD, hp]
 have hpm := List.mem_of_getElem? hp
 have hrt := h.ok.route hpm
 obtain ⟨a1, a2⟩ := rs_name h hr hrt.2
 obtain ⟨_, _, hnd, hcnt⟩ := (pfK_iff n c.pfx [] []).1 h.ok.pf
 have hmap : (c.pfx.map fkey)[k]? = some (p.1, p.2.1) := by rw [List.getElem?_map, hp]; rfl
 have hd : (p.1, p.2.1) ∉ d.xk := by
  rw [hr.xk, List.map_take]
  exact nodup_take hnd hmap
 have hc : cntP p.2.2 d.pfx ≠ 64 := by
  have h1 := hcnt p.2.2 (List.mem_map.2 ⟨p, hpm, rfl⟩)
  rw [List.nil_append, cnt_eq] at h1
  have h2 : cntP p.2.2 (c.pfx.take (k + 1)) ≤ cntP p.2.2 c.pfx := by
   unfold cntP
   exact (List.Sublist.filter _ (List.take_sublist _ _)).length_le
  have h3 := cntP_snoc (n := p.2.2) hp
  rw [if_pos (by simp)] at h3
  rw [hr.pfx]
  omega
 have hrd := fun dry => prefix_rd dry d (h.pp p hpm) a1 a2 hd hc
 have hW : pfxW c k = [kPrefix, ptextS p.1 p.2.1, kAt, getN c.names p.2.2] := by unfold pfxW; rw [hg]; rfl
 refine ⟨_, by rw [hW, hrd true, if_pos rfl], by rw [hW, hrd false, if_neg (by decide)], ?_⟩
 refine { hr with pfx := ?_, xk := ?_ }
 ·simp only; rw [hr.pfx, take_snoc hp]
 ·simp only; rw [hr.xk, take_snoc hp, List.map_append]; rfl
def polT (c : Cf) (k : Nat) : List (List UInt8) :=
 let p := c.pols.getD k (0, 0, [])
 [kPolicy, getN c.names p.1, D p.2.1, kEq] ++ p.2.2.flatMap (segT2 c)
theorem rs_pol {n : Int} {c d : Cf} (h : RC n c) {k : Nat} (hk : k < c.pols.length) (hr : RS c c.names.length c.links.length c.pfx.length k 0 0 d) :
  ∃ d', lineS true d (polT c k) = .ok d ∧ lineS false d (polT c k) = .ok d' ∧ RS c c.names.length c.links.length c.pfx.length (k + 1) 0 0 d' := by
 have hln := h.ok.ln
 have hnn := h.ok.nn
 obtain ⟨p, hp⟩ := get_some (l := c.pols) (k := k) hk
 have hg : c.pols.getD k (0, 0, []) = p := by simp [List.getD_eq_getElem?_getD, hp]
 have hpm := List.mem_of_getElem? hp
 have hpo := h.ok.pol hpm
 have hsi : SegsIn c d := RS.segs h (p := c.pfx.length) (q := k) (e := 0) (t := 0) (by rw [hln]; exact hr)
 have hnd := (polK_iff.1 (by have := h.ok.pl; simp only [polsB, Bool.and_eq_true] at this; exact this.2)).2.2
 have hmap : (c.pols.map pkey)[k]? = some (p.1, p.2.1) := by rw [List.getElem?_map, hp]; rfl
 have hd : (p.1, p.2.1) ∉ d.yk := by
  rw [hr.yk, List.map_take]
  exact nodup_take hnd hmap
 have hpn := h.ok.polsn
 have hdl : d.pols.length = k := by rw [hr.pols, List.length_take]; omega
 have hrd := fun dry => policy_rd dry hsi (by omega) hpo.2.1 hpo.2.2.1 (by rw [hln, hnn]; exact hpo.2.2.2) (h.ng p hpm) hd (by omega)
 have hW : polT c k = [kPolicy, getN c.names p.1, D p.2.1, kEq] ++ p.2.2.flatMap (segT2 c) := by unfold polT; rw [hg]
 refine ⟨_, by rw [hW, hrd true, if_pos rfl], by rw [hW, hrd false, if_neg (by decide)], ?_⟩
 refine { hr with pols := ?_, yk := ?_ }
 ·simp only; rw [hr.pols, take_snoc hp]
 ·simp only; rw [hr.yk, take_snoc hp, List.map_append]; rfl
def demT (c : Cf) (k : Nat) : List (List UInt8) :=
 let d := c.dems.getD k (0, 0, 0, 0)
 [kDemand, kFrom, getN c.names d.1, kTo, getN c.names d.2.1, kAmount, D d.2.2.1, kPriority, D d.2.2.2]
theorem rs_dem {n : Int} {c d : Cf} (h : RC n c) {k : Nat} (hk : k < c.dems.length) (hr : RS c c.names.length c.links.length c.pfx.length c.pols.length k 0 d) :
  ∃ d', lineS true d (demT c k) = .ok d ∧ lineS false d (demT c k) = .ok d' ∧ RS c c.names.length c.links.length c.pfx.length c.pols.length (k + 1) 0 d' := by
 obtain ⟨p, hp⟩ := get_some (l := c.dems) (k := k) hk
 have hg : c.dems.getD k (0, 0, 0, 0) = p := by simp [List.getD_eq_getElem?_getD, hp]
 have hdm := h.ok.dem (List.mem_of_getElem? hp)
 obtain ⟨a1, a2⟩ := rs_name h hr hdm.2.1
 obtain ⟨b1, b2⟩ := rs_name h hr hdm.2.2.1
 have hdn := h.ok.demsn
 have hdl : d.dems.length = k := by rw [hr.dems, List.length_take]; omega
 have hrd := fun dry => demand_rd dry d a1 b1 a2 b2 hdm.1 hdm.2.2.2.1 hdm.2.2.2.2 (by omega)
 have hW : demT c k = [kDemand, kFrom, getN c.names p.1, kTo, getN c.names p.2.1, kAmount, D p.2.2.1, kPriority, D p.2.2.2] := by unfold demT; rw [hg]
 refine ⟨_, by rw [hW, hrd true, if_pos rfl], by rw [hW, hrd false, if_neg (by decide)], ?_⟩
 refine { hr with dems := ?_ }
 simp only; rw [hr.dems, take_snoc hp]
def timT (c : Cf) (k : Nat) : List (List UInt8) := [kTimer, tNames.getD k [], kEq, D (c.tm.getD k 0)]
theorem rs_tim {n : Int} {c d : Cf} (h : RC n c) {k : Nat} (hk : k < 5) (hr : RS c c.names.length c.links.length c.pfx.length c.pols.length c.dems.length k d) :
  ∃ d', lineS true d (timT c k) = .ok d ∧ lineS false d (timT c k) = .ok d' ∧ RS c c.names.length c.links.length c.pfx.length c.pols.length c.dems.length (k + 1) d' := by
 have hrd := fun dry => timer_rd dry d hk (h.ok.tim hk) (hr.giv k (Nat.le_refl _))
 refine ⟨_, by rw [timT, hrd true, if_pos rfl], by rw [timT, hrd false, if_neg (by decide)], ?_⟩
 refine { hr with tm := ?_, tl := ?_, giv := ?_, gl := ?_ }
 ·intro j hj
  simp only
  rw [getD_set _ _ _ _ _ (by rw [hr.tl]; exact hk)]
  split
  ·rename_i e; rw [e]
  ·exact hr.tm j (by omega)
 ·simp only [List.length_set]; exact hr.tl
 ·intro j hj
  simp only
  rw [getD_set _ _ _ _ _ (by rw [hr.gl]; exact hk), if_neg (by omega)]
  exact hr.giv j (by omega)
 ·simp only [List.length_set]; exact hr.gl
theorem mapR_succ {α : Type} (n : Nat) (f : Nat → α) : mapR (n + 1) f = mapR n f ++ [f n] := by simp [mapR, List.range_succ]
/-- Lines of one kind, one after another. -/
theorem parse_run {W : Nat → List UInt8} {T : Nat → List (List UInt8)} {P : Nat → Cf → Prop} : ∀ (n : Nat), (∀ k, k < n → wordsS (W k) = T k ∧ T k ≠ []) → (∀ k, k < n → ∀ d, P k d → ∃ d', lineS true d (T k) = .ok d ∧ lineS false d (T k) = .ok d' ∧ P (k + 1) d') →
  ∀ (j : Nat) (d : Cf) (rest : List (List UInt8)), P 0 d → ∃ d', P n d' ∧ parseL (mapR n W ++ rest) j d = parseL rest (j + n) d'
 | 0, _, _, j, d, rest, h => ⟨d, h, rfl⟩
 | n + 1, hW, hs, j, d, rest, h => by
  obtain ⟨d1, h1, e1⟩ := parse_run n (fun k hk => hW k (by omega)) (fun k hk => hs k (by omega)) j d (W n :: rest) h
  obtain ⟨d2, h2, h3, h4⟩ := hs n (by omega) d1 h1
  obtain ⟨w1, w2⟩ := hW n (by omega)
  refine ⟨d2, h4, ?_⟩
  rw [mapR_succ, List.append_assoc, List.singleton_append, e1, parseL_go (by rw [w1]; exact w2) (by rw [w1]; exact h2) (by rw [w1]; exact h3)]
  rfl
def tx (ws : List (List UInt8)) : List UInt8 := Lib.join ws [32]
theorem print_lines (c : Cf) : printC c = ((linesC c).map tx).flatMap (· ++ [10]) := by
 rw [List.flatMap_map]; rfl
theorem map_mapR {α β : Type} (n : Nat) (f : Nat → α) (g : α → β) : (mapR n f).map g = mapR n fun k => g (f k) := by simp [mapR]
theorem map_lines (c : Cf) : (linesC c).map tx = mapR c.names.length (fun k => tx (nodeW c k)) ++ (mapR c.links.length (fun k => tx (linkW c k)) ++ (mapR c.pfx.length (fun k => tx (pfxW c k)) ++ (mapR c.pols.length (fun k => tx (polW c k)) ++ (mapR c.dems.length (fun k => tx (demW c k)) ++ mapR 5 (fun k => tx (timW c k)))))) := by
 simp only [linesC, List.map_append, map_mapR]
end Go.Proofs.YtfimacgmciogmaaGreatDoor
namespace Go.Proofs.YtfimacgmciogmaaGreatDoor
set_option linter.unusedSimpArgs false
set_option linter.unusedVariables false
open Go.RowKit Go.Sort Go.Shelf
def WJ (l : List (List UInt8 × List (List UInt8))) : Prop := ∀ p ∈ l, Wd p.1 p.2
theorem WJ.nil : WJ [] := fun p hp => by cases hp
theorem WJ.cons {a : List UInt8} {b : List (List UInt8)} {l : List (List UInt8 × List (List UInt8))} (h : Wd a b) (hl : WJ l) : WJ ((a, b) :: l) := fun p hp => by
 rcases List.mem_cons.1 hp with rfl | hp
 ·exact h
 ·exact hl p hp
theorem WJ.app {l m : List (List UInt8 × List (List UInt8))} (h : WJ l) (hm : WJ m) : WJ (l ++ m) := fun p hp => by
 rcases List.mem_append.1 hp with hp | hp
 ·exact h p hp
 ·exact hm p hp
theorem WJ.tx {l : List (List UInt8 × List (List UInt8))} (h : WJ l) (hne : l ≠ []) : Wd (tx (l.map Prod.fst)) (l.flatMap Prod.snd) := wd_join l hne h
def K (w : List UInt8) : List UInt8 × List (List UInt8) := (w, [w])
section
variable {n : Int} {c : Cf}
theorem wn (h : RC n c) {i : Int} (hi : 0 ≤ i ∧ i < n) : Wd (getN c.names i) [getN c.names i] := by
 have := h.ok.nn
 exact wd_named (h.nm _ (List.mem_append.2 (.inl (getN_mem hi.1 (by omega)))))
theorem wd_node (h : RC n c) {k : Nat} (hk : k < c.names.length) : Wd (tx (nodeW c k)) (nodeW c k) := by
 obtain ⟨x, hx⟩ := get_some (l := c.names) (k := k) hk
 have hg : c.names.getD k [] = x := by simp [List.getD_eq_getElem?_getD, hx]
 have hn := wd_named (h.nm x (List.mem_append.2 (.inl (List.mem_of_getElem? hx))))
 unfold nodeW
 rw [hg]
 split
 ·exact WJ.tx (l := [(kNode, [kNode]), (x, [x]), (kOverload, [kOverload])]) (.cons (wd_key (by decide) (by decide)) (.cons hn (.cons (wd_key (by decide) (by decide)) .nil))) (by simp)
 ·exact WJ.tx (l := [(kNode, [kNode]), (x, [x])]) (.cons (wd_key (by decide) (by decide)) (.cons hn .nil)) (by simp)
theorem wd_link (h : RC n c) {k : Nat} (hk : k < c.links.length) : Wd (tx (linkW c k)) (linkT c k) := by
 have hln := h.ok.ln
 obtain ⟨x, hx⟩ := get_some (l := c.lnames) (k := k) (by omega)
 obtain ⟨l, hl⟩ := get_some (l := c.links) (k := k) hk
 have hg : c.lnames.getD k [] = x := by simp [List.getD_eq_getElem?_getD, hx]
 have hgl : c.links.getD k default = l := by simp [List.getD_eq_getElem?_getD, hl]
 have hn := wd_named (h.nm x (List.mem_append.2 (.inr (List.mem_of_getElem? hx))))
 obtain ⟨_, ha, hb, h0, h1, h2, h3, h4⟩ := h.ok.link (List.mem_of_getElem? hl)
 unfold linkW linkT lnkW
 rw [hg, hgl]
 exact WJ.tx (l := [(kLink, [kLink]), (x, [x]), (kFrom, [kFrom]), (getN c.names l.a, [getN c.names l.a]), (kTo, [kTo]), (getN c.names l.b, [getN c.names l.b]), (kCost, [kCost]), (Lib.itoa l.c0, [D l.c0]), (kBack, [kBack]), (Lib.itoa l.c1, [D l.c1]), (kCapacity, [kCapacity]), (Lib.itoa l.cap, [D l.cap]), (kDelay, [kDelay]), (Lib.itoa l.dl, [D l.dl]), (kGroup, [kGroup]), (Lib.itoa l.g, [D l.g])])
  (.cons (wd_key (by decide) (by decide)) (.cons hn (.cons (wd_key (by decide) (by decide)) (.cons (wn h ha) (.cons (wd_key (by decide) (by decide)) (.cons (wn h hb) (.cons (wd_key (by decide) (by decide)) (.cons (wd_itoa (by omega)) (.cons (wd_key (by decide) (by decide)) (.cons (wd_itoa (by omega)) (.cons (wd_key (by decide) (by decide)) (.cons (wd_itoa (by omega)) (.cons (wd_key (by decide) (by decide)) (.cons (wd_itoa (by omega)) (.cons (wd_key (by decide) (by decide)) (.cons (wd_itoa (by omega)) .nil)))))))))))))))) (by simp)
theorem wd_pfx (h : RC n c) {k : Nat} (hk : k < c.pfx.length) : Wd (tx (pfxW c k)) (pfxW c k) := by
 obtain ⟨p, hp⟩ := get_some (l := c.pfx) (k := k) hk
 have hg : c.pfx.getD k (0, 0, 0) = p := by simp [List.getD_eq_getElem?_getD, hp]
 obtain ⟨h1, h2⟩ := h.ok.route (List.mem_of_getElem? hp)
 unfold pfxW routeW
 rw [hg]
 exact WJ.tx (l := [(kPrefix, [kPrefix]), (ptextS p.1 p.2.1, [ptextS p.1 p.2.1]), (kAt, [kAt]), (getN c.names p.2.2, [getN c.names p.2.2])]) (.cons (wd_key (by decide) (by decide)) (.cons (wd_ptext h1) (.cons (wd_key (by decide) (by decide)) (.cons (wn h h2) .nil)))) (by simp)
theorem wd_pol (h : RC n c) {k : Nat} (hk : k < c.pols.length) : Wd (tx (polW c k)) (polT c k) := by
 have hln := h.ok.ln
 have hnn := h.ok.nn
 obtain ⟨p, hp⟩ := get_some (l := c.pols) (k := k) hk
 have hg : c.pols.getD k (0, 0, []) = p := by simp [List.getD_eq_getElem?_getD, hp]
 obtain ⟨h1, h2, _, h3⟩ := h.ok.pol (List.mem_of_getElem? hp)
 unfold polW polT plcW
 rw [hg]
 have hw := WJ.tx (l := [(kPolicy, [kPolicy]), (getN c.names p.1, [getN c.names p.1]), (Lib.itoa p.2.1, [D p.2.1]), (kEq, [kEq])] ++ p.2.2.map fun s => (segTx c s, segT2 c s)) (.app (.cons (wd_key (by decide) (by decide)) (.cons (wn h h1) (.cons (wd_itoa (by omega)) (.cons wd_eq .nil)))) (fun q hq => by
  obtain ⟨s, hs, rfl⟩ := List.mem_map.1 hq
  exact wd_seg hnn.symm (by rw [hln]; exact h3 s hs) h.nm)) (by simp)
 rw [List.map_append, List.flatMap_append, List.map_map, List.flatMap_map] at hw
 exact hw
theorem wd_dem (h : RC n c) {k : Nat} (hk : k < c.dems.length) : Wd (tx (demW c k)) (demT c k) := by
 obtain ⟨p, hp⟩ := get_some (l := c.dems) (k := k) hk
 have hg : c.dems.getD k (0, 0, 0, 0) = p := by simp [List.getD_eq_getElem?_getD, hp]
 obtain ⟨_, ha, hb, h0, h1⟩ := h.ok.dem (List.mem_of_getElem? hp)
 unfold demW demT dmdW
 rw [hg]
 exact WJ.tx (l := [(kDemand, [kDemand]), (kFrom, [kFrom]), (getN c.names p.1, [getN c.names p.1]), (kTo, [kTo]), (getN c.names p.2.1, [getN c.names p.2.1]), (kAmount, [kAmount]), (Lib.itoa p.2.2.1, [D p.2.2.1]), (kPriority, [kPriority]), (Lib.itoa p.2.2.2, [D p.2.2.2])])
  (.cons (wd_key (by decide) (by decide)) (.cons (wd_key (by decide) (by decide)) (.cons (wn h ha) (.cons (wd_key (by decide) (by decide)) (.cons (wn h hb) (.cons (wd_key (by decide) (by decide)) (.cons (wd_itoa (by omega)) (.cons (wd_key (by decide) (by decide)) (.cons (wd_itoa (by omega)) .nil))))))))) (by simp)
theorem wd_tim (h : RC n c) {k : Nat} (hk : k < 5) : Wd (tx (timW c k)) (timT c k) := by
 have ht := h.ok.tim hk
 have hw : Wd (tNames.getD k []) [tNames.getD k []] := by
  rcases (by omega : k = 0 ∨ k = 1 ∨ k = 2 ∨ k = 3 ∨ k = 4) with rfl | rfl | rfl | rfl | rfl <;> exact wd_key (by decide) (by decide)
 exact WJ.tx (l := [(kTimer, [kTimer]), (tNames.getD k [], [tNames.getD k []]), (kEq, [kEq]), (Lib.itoa (c.tm.getD k 0), [D (c.tm.getD k 0)])]) (.cons (wd_key (by decide) (by decide)) (.cons hw (.cons wd_eq (.cons (wd_itoa (by omega)) .nil)))) (by simp)
theorem mem_mapR {α : Type} {m : Nat} {f : Nat → α} {x : α} (h : x ∈ mapR m f) : ∃ k, k < m ∧ f k = x := by
 obtain ⟨k, hk, e⟩ := List.mem_map.1 h
 exact ⟨k, List.mem_range.1 hk, e⟩
theorem lines_ok (h : RC n c) : ∀ l ∈ (linesC c).map tx, okL l := by
 intro l hl
 rw [map_lines] at hl
 simp only [List.mem_append] at hl
 rcases hl with hl | hl | hl | hl | hl | hl <;> obtain ⟨k, hk, rfl⟩ := mem_mapR hl
 ·exact (wd_node h hk).1
 ·exact (wd_link h hk).1
 ·exact (wd_pfx h hk).1
 ·exact (wd_pol h hk).1
 ·exact (wd_dem h hk).1
 ·exact (wd_tim h hk).1
theorem reread (h : RC n c) : ∃ d, parseC (printC c) = .ok d ∧ RS c c.names.length c.links.length c.pfx.length c.pols.length c.dems.length 5 d := by
 have hsp : splitK 10 [] (printC c) = (linesC c).map tx ++ [[]] := by
  rw [print_lines]
  exact splitK_lines _ (fun l hl => okL_no (lines_ok h l hl))
 obtain ⟨d1, r1, e1⟩ := parse_run (W := fun k => tx (nodeW c k)) (T := nodeW c) (P := fun k d => RS c k 0 0 0 0 0 d) c.names.length (fun k hk => ⟨wd_words (wd_node h hk), by unfold nodeW; split <;> simp⟩) (fun k hk d hr => rs_node h hk hr) 0 c0
  (mapR c.links.length (fun k => tx (linkW c k)) ++ (mapR c.pfx.length (fun k => tx (pfxW c k)) ++ (mapR c.pols.length (fun k => tx (polW c k)) ++ (mapR c.dems.length (fun k => tx (demW c k)) ++ (mapR 5 (fun k => tx (timW c k)) ++ [[]]))))) (rs0 c)
 obtain ⟨d2, r2, e2⟩ := parse_run (W := fun k => tx (linkW c k)) (T := linkT c) (P := fun k d => RS c c.names.length k 0 0 0 0 d) c.links.length (fun k hk => ⟨wd_words (wd_link h hk), by unfold linkT; simp⟩) (fun k hk d hr => rs_link h hk hr) (0 + c.names.length) d1
  (mapR c.pfx.length (fun k => tx (pfxW c k)) ++ (mapR c.pols.length (fun k => tx (polW c k)) ++ (mapR c.dems.length (fun k => tx (demW c k)) ++ (mapR 5 (fun k => tx (timW c k)) ++ [[]])))) r1
 obtain ⟨d3, r3, e3⟩ := parse_run (W := fun k => tx (pfxW c k)) (T := pfxW c) (P := fun k d => RS c c.names.length c.links.length k 0 0 0 d) c.pfx.length (fun k hk => ⟨wd_words (wd_pfx h hk), by unfold pfxW routeW; simp⟩) (fun k hk d hr => rs_pfx h hk hr) (0 + c.names.length + c.links.length) d2
  (mapR c.pols.length (fun k => tx (polW c k)) ++ (mapR c.dems.length (fun k => tx (demW c k)) ++ (mapR 5 (fun k => tx (timW c k)) ++ [[]]))) r2
 obtain ⟨d4, r4, e4⟩ := parse_run (W := fun k => tx (polW c k)) (T := polT c) (P := fun k d => RS c c.names.length c.links.length c.pfx.length k 0 0 d) c.pols.length (fun k hk => ⟨wd_words (wd_pol h hk), by unfold polT; simp⟩) (fun k hk d hr => rs_pol h hk hr) (0 + c.names.length + c.links.length + c.pfx.length) d3
  (mapR c.dems.length (fun k => tx (demW c k)) ++ (mapR 5 (fun k => tx (timW c k)) ++ [[]])) r3
 obtain ⟨d5, r5, e5⟩ := parse_run (W := fun k => tx (demW c k)) (T := demT c) (P := fun k d => RS c c.names.length c.links.length c.pfx.length c.pols.length k 0 d) c.dems.length (fun k hk => ⟨wd_words (wd_dem h hk), by unfold demT; simp⟩) (fun k hk d hr => rs_dem h hk hr) (0 + c.names.length + c.links.length + c.pfx.length + c.pols.length) d4
  (mapR 5 (fun k => tx (timW c k)) ++ [[]]) r4
 obtain ⟨d6, r6, e6⟩ := parse_run (W := fun k => tx (timW c k)) (T := timT c) (P := fun k d => RS c c.names.length c.links.length c.pfx.length c.pols.length c.dems.length k d) 5 (fun k hk => ⟨wd_words (wd_tim h hk), by unfold timT; simp⟩) (fun k hk d hr => rs_tim h hk hr) (0 + c.names.length + c.links.length + c.pfx.length + c.pols.length + c.dems.length) d5 [[]] r5
 refine ⟨d6, ?_, r6⟩
 have hpl : parseL (splitK 10 [] (printC c)) 0 c0 = .ok d6 := by
  rw [hsp, map_lines]
  simp only [List.append_assoc]
  rw [e1, e2, e3, e4, e5, e6, parseL_skip rfl]
  rfl
 rw [parseC, hpl]
 simp only
 rw [if_neg]
 rw [r6.names, List.take_length]
 intro e
 have h1 := h.ok.nn
 have h2 := h.ok.n1
 rw [e] at h1
 simp at h1
 omega
end
/-- The contents of a configuration alone. -/
def dat (c : Cf) : Cf := { c with sym := [], giv := [], xk := [], yk := [] }
theorem ci_rc {c : Cf} (h : CI c) (hne : c.names ≠ []) : RC (c.names.length : Int) (ovC c) :=
 ⟨cf_ok (ci_cfg h hne), fun p hp => (h.pv p hp).1.2.2.2, fun p hp => negOk_app (c := c) (a := []) (b := []) (by simp [ovC]) (by simp [ovC]) (by rw [h.lk]; exact (polB_iff.1 (h.pb p hp).1).2.2.2) (h.pb p hp).2, h.tl⟩
theorem tm_ext {l m : List Int} (hl : l.length = 5) (hm : m.length = 5) (h : ∀ k, k < 5 → l.getD k 0 = m.getD k 0) : l = m := by
 apply List.ext_getElem (by omega)
 intro k h1 h2
 have := h k (by omega)
 simp only [List.getD_eq_getElem?_getD, List.getElem?_eq_getElem h1, List.getElem?_eq_getElem h2, Option.getD_some] at this
 exact this
theorem ovs_len (c : Cf) : (ovs c).length = c.names.length := mapR_len _ _
/-- What is parsed, printed and parsed again. -/
theorem own_plain {s : List UInt8} {c : Cf} (h : parseC s = .ok c) : cfgB (c.names.length : Int) (ovC c) = true ∧ ∃ d, parseC (printC (ovC c)) = .ok d ∧ dat (ovC d) = dat (ovC c) := by
 obtain ⟨hc, hne⟩ := parse_ci h
 refine ⟨ci_cfg hc hne, ?_⟩
 have hrc := ci_rc hc hne
 obtain ⟨d, hd, hr⟩ := reread hrc
 refine ⟨d, hd, ?_⟩
 have hlk : (ovC c).links.length = c.lnames.length := hc.lk.symm
 have e1 : d.names = c.names := by rw [hr.names, List.take_length]; rfl
 have e2 : d.lnames = c.lnames := by rw [hr.lnames, hlk]; exact List.take_length
 have e3 : d.links = c.links := by rw [hr.links, List.take_length]; rfl
 have e4 : d.pfx = c.pfx := by rw [hr.pfx, List.take_length]; rfl
 have e5 : d.pols = c.pols := by rw [hr.pols, List.take_length]; rfl
 have e6 : d.dems = c.dems := by rw [hr.dems, List.take_length]; rfl
 have e7 : d.tm = c.tm := tm_ext hr.tl hc.tl hr.tm
 have e8 : d.ov = ovs (ovC c) := by rw [hr.ov, ← ovs_len, List.take_length]
 have e9 : (if true ∈ d.ov then d.ov else []) = (if true ∈ c.ov then c.ov else []) := by
  by_cases hb : true ∈ c.ov
  ·have e10 : d.ov = c.ov := by
    rw [e8]
    have h1 : (ovC c).ov = c.ov := by unfold ovC; simp only [if_pos hb]
    apply List.ext_getElem (by rw [ovs_len, hc.ov]; rfl)
    intro k h2 h3
    have h4 : (ovs (ovC c))[k]? = some ((ovC c).ov.getD k false) := mapR_at (by rw [ovs_len] at h2; exact h2)
    rw [List.getElem?_eq_getElem h2, h1, List.getD_eq_getElem?_getD, List.getElem?_eq_getElem h3] at h4
    injection h4
   rw [e10]
  ·have e10 : true ∉ d.ov := by
    rw [e8]
    intro hm
    obtain ⟨k, _, hk⟩ := mem_mapR hm
    have h1 : (ovC c).ov = [] := by unfold ovC; simp only [if_neg hb]
    rw [h1] at hk
    simp at hk
   rw [if_neg hb, if_neg e10]
 unfold dat ovC
 simp only [e1, e2, e3, e4, e5, e6, e7, e9]
end Go.Proofs.YtfimacgmciogmaaGreatDoor
namespace Go.Proofs.YtfimacgmciogmaaGreatDoor
set_option linter.unusedSimpArgs false
set_option linter.unusedVariables false
open Go.RowKit Go.Sort Go.Shelf
theorem named_16' {x : List UInt8} (h : namedB x = true) : x.length ≤ 16 := by
 by_cases hl : 16 < x.length
 ·rw [named_long hl] at h; cases h
 ·omega
def wsum (ws : List (List UInt8)) : Nat := (ws.map fun w => w.length + 1).sum
theorem tx_le : ∀ ws : List (List UInt8), (tx ws).length ≤ wsum ws
 | [] => by simp [tx, Lib.join, List.intercalate, wsum]
 | [w] => by simp [tx, Lib.join, List.intercalate, wsum]
 | w :: v :: r => by
  have h := tx_le (v :: r)
  have e : tx (w :: v :: r) = w ++ 32 :: tx (v :: r) := by simp [tx, Lib.join, List.intercalate]
  rw [e, List.length_append, List.length_cons]
  simp only [wsum, List.map_cons, List.sum_cons] at h ⊢
  omega
theorem wsum_cons (w : List UInt8) (r : List (List UInt8)) : wsum (w :: r) = w.length + 1 + wsum r := by simp [wsum]
theorem wsum_nil : wsum [] = 0 := rfl
theorem wsum_app (a b : List (List UInt8)) : wsum (a ++ b) = wsum a + wsum b := by simp [wsum]
theorem wsum_le {m : Nat} : ∀ {l : List (List UInt8)}, (∀ w ∈ l, w.length ≤ m) → wsum l ≤ l.length * (m + 1)
 | [], _ => by simp [wsum]
 | w :: r, h => by
  have h1 := wsum_le (m := m) (l := r) (fun x hx => h x (by simp [hx]))
  have h2 := h w (by simp)
  rw [wsum_cons, List.length_cons, Nat.succ_mul]
  omega
theorem itoa20 {n : Int} (h : -1000000 ≤ n ∧ n ≤ 2000000) : (Lib.itoa n).length ≤ 21 := Lib.itoa_length_le n (by omega) (by omega)
section
variable {n : Int} {c : Cf}
theorem nm16 (h : RC n c) {i : Int} (hi : 0 ≤ i ∧ i < n) : (getN c.names i).length ≤ 16 := by
 have := h.ok.nn
 exact named_16' (h.nm _ (List.mem_append.2 (.inl (getN_mem hi.1 (by omega)))))
theorem bd_node (h : RC n c) {k : Nat} (hk : k < c.names.length) : wsum (nodeW c k) ≤ 31 := by
 obtain ⟨x, hx⟩ := get_some (l := c.names) (k := k) hk
 have hg : c.names.getD k [] = x := by simp [List.getD_eq_getElem?_getD, hx]
 have h1 := named_16' (h.nm x (List.mem_append.2 (.inl (List.mem_of_getElem? hx))))
 unfold nodeW
 rw [hg]
 split
 ·simp only [wsum_cons, wsum_nil, kNode, kOverload, List.length_cons, List.length_nil]; omega
 ·simp only [wsum_cons, wsum_nil, kNode, List.length_cons, List.length_nil]; omega
theorem wsum2 {k w : List UInt8} {r : List (List UInt8)} {a b c : Nat} (hk : k.length = a) (hw : w.length ≤ b) (hr : wsum r ≤ c) : wsum (k :: w :: r) ≤ a + b + 2 + c := by
 rw [wsum_cons, wsum_cons]
 omega
theorem bd_lnk {x a b s0 s1 s2 s3 s4 : List UInt8} (h1 : x.length ≤ 16) (i5 : a.length ≤ 16) (i6 : b.length ≤ 16) (i0 : s0.length ≤ 21) (i1 : s1.length ≤ 21) (i2 : s2.length ≤ 21) (i3 : s3.length ≤ 21) (i4 : s4.length ≤ 21) :
  wsum [kLink, x, kFrom, a, kTo, b, kCost, s0, kBack, s1, kCapacity, s2, kDelay, s3, kGroup, s4] ≤ 341 := by
 have e9 : wsum [] ≤ 0 := Nat.le_refl _
 exact Nat.le_trans (wsum2 (a := 4) rfl h1 (wsum2 (a := 4) rfl i5 (wsum2 (a := 2) rfl i6 (wsum2 (a := 4) rfl i0 (wsum2 (a := 4) rfl i1 (wsum2 (a := 8) rfl i2 (wsum2 (a := 5) rfl i3 (wsum2 (a := 5) rfl i4 e9)))))))) (by decide)
theorem bd_link (h : RC n c) {k : Nat} (hk : k < c.links.length) : wsum (linkW c k) ≤ 341 := by
 have hln := h.ok.ln
 obtain ⟨x, hx⟩ := get_some (l := c.lnames) (k := k) (by omega)
 obtain ⟨l, hl⟩ := get_some (l := c.links) (k := k) hk
 have hg : c.lnames.getD k [] = x := by simp [List.getD_eq_getElem?_getD, hx]
 have hgl : c.links.getD k default = l := by simp [List.getD_eq_getElem?_getD, hl]
 have h1 := named_16' (h.nm x (List.mem_append.2 (.inr (List.mem_of_getElem? hx))))
 obtain ⟨_, ha, hb, g0, g1, g2, g3, g4⟩ := h.ok.link (List.mem_of_getElem? hl)
 rw [linkW, hg, hgl]
 exact bd_lnk h1 (nm16 h ha) (nm16 h hb) (itoa20 ⟨by omega, by omega⟩) (itoa20 ⟨by omega, by omega⟩) (itoa20 ⟨by omega, by omega⟩) (itoa20 ⟨by omega, by omega⟩) (itoa20 ⟨by omega, by omega⟩)
theorem ptext_len {x y : Int} (h : pvalB x y = true) : (ptextS x y).length ≤ 111 := by
 have hy : 0 ≤ y ∧ y ≤ 32 := by
  unfold pvalB at h
  simp at h
  omega
 have h1 := octK_len x 4
 have h2 := itoa20 (n := y) (by omega)
 rw [ptextS, if_pos h, List.length_append, List.length_cons]
 omega
theorem bd_pfx (h : RC n c) {k : Nat} (hk : k < c.pfx.length) : wsum (pfxW c k) ≤ 139 := by
 obtain ⟨p, hp⟩ := get_some (l := c.pfx) (k := k) hk
 have hg : c.pfx.getD k (0, 0, 0) = p := by simp [List.getD_eq_getElem?_getD, hp]
 obtain ⟨h1, h2⟩ := h.ok.route (List.mem_of_getElem? hp)
 have h3 := ptext_len h1
 have h4 := nm16 h h2
 unfold pfxW routeW
 rw [hg]
 simp only [wsum_cons, wsum_nil, kPrefix, kAt, List.length_cons, List.length_nil]
 omega
theorem segTx_len (h : RC n c) {s : Int × Int} (hs : segB n c.links.length s = true) : (segTx c s).length ≤ 26 := by
 have hln := h.ok.ln
 rcases segB_cases hs with ⟨h1, h2, h3⟩ | ⟨h1, h2, h3⟩ | ⟨h1, h2, h3⟩ | ⟨h1, h2, h3⟩
 ·simp only [segTx, h1, if_true]
  have := nm16 h ⟨h2, h3⟩
  omega
 ·simp only [segTx, h1, show ¬ (2 : Int) = 1 by decide, if_false, if_true, List.length_append]
  have := named_16' (h.nm _ (List.mem_append.2 (.inr (getN_mem (l := c.lnames) (i := s.2 / 2) (by omega) (by omega)))))
  have : (if s.2 % 2 = 0 then kGt else kLt).length = 1 := by split <;> rfl
  omega
 ·simp only [segTx, h1, show ¬ (3 : Int) = 1 by decide, show ¬ (3 : Int) = 2 by decide, if_false, if_true, List.length_append, List.length_cons, kAny, List.length_nil]
  have := itoa20 (n := s.2) (by omega)
  omega
 ·simp only [segTx, h1, show ¬ (4 : Int) = 1 by decide, show ¬ (4 : Int) = 2 by decide, show ¬ (4 : Int) = 3 by decide, if_false, List.length_append, List.length_cons, kBind, List.length_nil]
  have := itoa20 (n := s.2) (by omega)
  omega
theorem bd_pol (h : RC n c) {k : Nat} (hk : k < c.pols.length) : wsum (polW c k) ≤ 950 := by
 obtain ⟨p, hp⟩ := get_some (l := c.pols) (k := k) hk
 have hg : c.pols.getD k (0, 0, []) = p := by simp [List.getD_eq_getElem?_getD, hp]
 obtain ⟨h1, h2, h3, h4⟩ := h.ok.pol (List.mem_of_getElem? hp)
 have i1 := nm16 h h1
 have i2 := itoa20 (n := p.2.1) (by omega)
 have i3 := wsum_le (m := 26) (l := p.2.2.map (segTx c)) (fun w hw => by
  obtain ⟨s, hs, rfl⟩ := List.mem_map.1 hw
  exact segTx_len h (h4 s hs))
 rw [List.length_map] at i3
 have i4 : p.2.2.length * 27 ≤ 32 * 27 := Nat.mul_le_mul_right 27 h3
 unfold polW plcW
 rw [hg, wsum_app]
 simp only [wsum_cons, wsum_nil, kPolicy, kEq, List.length_cons, List.length_nil]
 omega
theorem bd_dem (h : RC n c) {k : Nat} (hk : k < c.dems.length) : wsum (demW c k) ≤ 191 := by
 obtain ⟨p, hp⟩ := get_some (l := c.dems) (k := k) hk
 have hg : c.dems.getD k (0, 0, 0, 0) = p := by simp [List.getD_eq_getElem?_getD, hp]
 obtain ⟨_, ha, hb, h0, h1⟩ := h.ok.dem (List.mem_of_getElem? hp)
 have i1 := nm16 h ha
 have i2 := nm16 h hb
 have i3 := itoa20 (n := p.2.2.1) (by omega)
 have i4 := itoa20 (n := p.2.2.2) (by omega)
 unfold demW dmdW
 rw [hg]
 simp only [wsum_cons, wsum_nil, kDemand, kFrom, kTo, kAmount, kPriority, List.length_cons, List.length_nil]
 clear h hk hp hg ha hb h0 h1
 generalize (Lib.itoa p.2.2.1).length = z3 at *
 generalize (Lib.itoa p.2.2.2).length = z4 at *
 generalize (getN c.names p.1).length = z5 at *
 generalize (getN c.names p.2.1).length = z6 at *
 omega
theorem bd_tim (h : RC n c) {k : Nat} (hk : k < 5) : wsum (timW c k) ≤ 85 := by
 have ht := h.ok.tim hk
 have i1 := itoa20 (n := c.tm.getD k 0) (by omega)
 have i2 : (tNames.getD k []).length ≤ 6 := by
  rcases (by omega : k = 0 ∨ k = 1 ∨ k = 2 ∨ k = 3 ∨ k = 4) with rfl | rfl | rfl | rfl | rfl <;> decide
 unfold timW
 simp only [wsum_cons, wsum_nil, kTimer, kEq, List.length_cons, List.length_nil]
 omega
/-- The length of all lines of one kind. -/
theorem sum_mapR {m B : Nat} {f : Nat → List (List UInt8)} (h : ∀ k, k < m → wsum (f k) ≤ B) : ((mapR m f).flatMap prnT).length ≤ m * (B + 1) := by
 induction m with
 | zero => simp [mapR]
 | succ m ih =>
  rw [mapR_succ, List.flatMap_append, List.length_append, Nat.succ_mul]
  have h1 := ih (fun k hk => h k (by omega))
  have h2 := h m (by omega)
  have h3 := tx_le (f m)
  have h4 : ([f m].flatMap prnT).length = (tx (f m)).length + 1 := by simp [prnT, tx]
  omega
theorem count_len (m : Nat) : ∀ (b : Nat) (l : List Int), (∀ x ∈ l, 0 ≤ x ∧ x < (b : Int)) → (∀ v, l.count v ≤ m) → l.length ≤ b * m
 | 0, l, h, _ => by
  cases l with
  | nil => simp
  | cons x r => have := h x (by simp); omega
 | b + 1, l, h, hc => by
  have h1 := count_len m b (l.filter fun x => !(x == (b : Int))) (fun x hx => by
   obtain ⟨h2, h3⟩ := List.mem_filter.1 hx
   have h4 := h x h2
   simp at h3
   omega) (fun v => Nat.le_trans (List.Sublist.count_le v (List.filter_sublist)) (hc v))
  have h2 := hc (b : Int)
  have h3 : l.length = (l.filter fun x => !(x == (b : Int))).length + l.count (b : Int) := by
   have h5 := List.length_eq_countP_add_countP (l := l) (fun x => x == (b : Int))
   rw [List.countP_eq_length_filter (p := fun a => decide ¬(a == (b : Int)) = true)] at h5
   have h6 : (fun a : Int => decide ¬(a == (b : Int)) = true) = fun x => !(x == (b : Int)) := by funext a; cases h : (a == (b : Int)) <;> simp
   rw [h6] at h5
   rw [List.count]
   omega
  rw [Nat.succ_mul]
  omega
theorem pfx_len (h : RC n c) : c.pfx.length ≤ 4096 := by
 have h1 := ((pfK_iff n c.pfx [] []).1 h.ok.pf)
 have h2 := count_len 64 c.names.length (c.pfx.map (·.2.2)) (fun x hx => by
  obtain ⟨p, hp, rfl⟩ := List.mem_map.1 hx
  have := (h.ok.route hp).2
  have := h.ok.nn
  omega) (fun v => by
  by_cases hv : v ∈ c.pfx.map (·.2.2)
  ·have := h1.2.2.2 v hv
   simpa using this
  ·rw [List.count_eq_zero_of_not_mem hv]; omega)
 rw [List.length_map] at h2
 have h3 := h.ok.nn
 have h4 := h.ok.n2
 have h5 : c.names.length * 64 ≤ 64 * 64 := Nat.mul_le_mul_right 64 (by omega)
 omega
theorem print_len (h : RC n c) : (printC c).length ≤ 1000000 := by
 have b1 := sum_mapR (fun k hk => bd_node h (k := k) hk)
 have b2 := sum_mapR (fun k hk => bd_link h (k := k) hk)
 have b3 := sum_mapR (fun k hk => bd_pfx h (k := k) hk)
 have b4 := sum_mapR (fun k hk => bd_pol h (k := k) hk)
 have b5 := sum_mapR (fun k hk => bd_dem h (k := k) hk)
 have b6 := sum_mapR (fun k hk => bd_tim h (k := k) hk)
 have n1 := h.ok.nn
 have n2 := h.ok.n2
 have n3 := h.ok.lk
 have n4 := pfx_len h
 have n5 := h.ok.polsn
 have n6 := h.ok.demsn
 have m1 : c.names.length * 32 ≤ 64 * 32 := Nat.mul_le_mul_right _ (by omega)
 have m2 : c.links.length * 342 ≤ 256 * 342 := Nat.mul_le_mul_right _ n3
 have m3 : c.pfx.length * 140 ≤ 4096 * 140 := Nat.mul_le_mul_right _ n4
 have m4 : c.pols.length * 951 ≤ 64 * 951 := Nat.mul_le_mul_right _ n5
 have m5 : c.dems.length * 192 ≤ 64 * 192 := Nat.mul_le_mul_right _ n6
 rw [printC, linesC]
 simp only [List.flatMap_append, List.length_append]
 omega
theorem line_len (h : RC n c) : ∀ l ∈ (linesC c).map tx, l.length ≤ 950 := by
 intro l hl
 rw [map_lines] at hl
 simp only [List.mem_append] at hl
 rcases hl with hl | hl | hl | hl | hl | hl <;> obtain ⟨k, hk, rfl⟩ := mem_mapR hl
 ·have := tx_le (nodeW c k); have := bd_node h hk; omega
 ·have := tx_le (linkW c k); have := bd_link h hk; omega
 ·have := tx_le (pfxW c k); have := bd_pfx h hk; omega
 ·have := tx_le (polW c k); have := bd_pol h hk; omega
 ·have := tx_le (demW c k); have := bd_dem h hk; omega
 ·have := tx_le (timW c k); have := bd_tim h hk; omega
theorem print_split (h : RC n c) : (splitK 10 [] (printC c)).length ≤ 50001 ∧ ∀ l ∈ splitK 10 [] (printC c), l.length ≤ 950 := by
 have hsp : splitK 10 [] (printC c) = (linesC c).map tx ++ [[]] := by
  rw [print_lines]
  exact splitK_lines _ (fun l hl => okL_no (lines_ok h l hl))
 rw [hsp]
 have n1 := h.ok.nn
 have n2 := h.ok.n2
 have n3 := h.ok.lk
 have n4 := pfx_len h
 have n5 := h.ok.polsn
 have n6 := h.ok.demsn
 have hl := lines_len c
 refine ⟨?_, fun l hl2 => ?_⟩
 ·rw [List.length_append, List.length_map, hl]
  simp
  omega
 ·rcases List.mem_append.1 hl2 with hl2 | hl2
  ·exact line_len h l hl2
  ·simp at hl2; subst hl2; simp
end
end Go.Proofs.YtfimacgmciogmaaGreatDoor
namespace Go.Proofs.YtfimacgmciogmaaGreatDoor
open Go.RowKit Go.Sort
def busyL (xs : List Bool) : Bool := xs.any id
theorem bools_at {w : World} {A : Option Addr} {xs : List Bool} {k : Nat} (h : Rd w A (xs.map Value.bool)) (hk : k < xs.length) : ∃ b o x, A = some ⟨b, o, none⟩ ∧ xs.drop k = x :: xs.drop (k + 1) ∧ w.cell? ⟨b, o + k, none⟩ = some (.bool x) := by
 obtain ⟨b, o, hA, hc⟩ := h.at_ (k := k) (u := .bool xs[k]) (by simp [List.getElem?_eq_getElem hk])
 exact ⟨b, o, xs[k], hA, List.drop_eq_getElem_cons hk, hc⟩
theorem ref09_busy (t : Topo) (A1 A2 : Option Addr) (c1 c2 : Nat) (w : World) (hT : TAt w A1 A2 t) (hm : t.ov.length ≤ 4611686018427387904) :
  Calls Tryz.prog 52 #[.agg #[.int .i64 t.n, .slice A1 t.ov.length c1, .slice A2 t.ls.length c2]] w fun e w' => e = .returned (.bool (busyL t.ov)) ∧ Below w.heap.size w w' := by
 have hT' := hT
 have hb0 := below_box w (.cells #[.int .i64 t.n, .slice A1 t.ov.length c1, .slice A2 t.ls.length c2] 27)
 have HT := hT.below hb0
 have HB := hb0
 have b0 := box0 w (.int .i64 t.n) (.slice A1 t.ov.length c1) (.slice A2 t.ls.length c2) 27
 have b1 := box1 w (.int .i64 t.n) (.slice A1 t.ov.length c1) (.slice A2 t.ls.length c2) 27
 have b2 := box2 w (.int .i64 t.n) (.slice A1 t.ov.length c1) (.slice A2 t.ls.length c2) 27
 clear hb0 hT
 have HT' := Lib.hid hT'; clear hT'
 obtain ⟨m, hM⟩ : ∃ m, m = t.ov.length := ⟨_, rfl⟩
 obtain ⟨V, hV⟩ : ∃ V, V = busyL t.ov := ⟨_, rfl⟩
 have HA := Lib.hid HT.ov; clear HT
 rw [← hM] at b1 hm HB b0 b2 HA
 rw [← hM, ← hV]
 have HM := Lib.hid hM; clear hM
 have HV := Lib.hid hV; clear hV
 go_enter Tryz.func52, Tryz.ntmps52
 go_wp2_with fail
 go_loopw [3] (fun i wr => ∃ k : Nat, k ≤ m ∧ i = .int .i64 k ∧ Hid (V = busyL (t.ov.drop k)) ∧ w.alloc (.cells #[.int .i64 t.n, .slice A1 m c1, .slice A2 t.ls.length c2] 27) = wr) (fun i _ => m - (intOf i).toNat)
 case atStart => exact ⟨0, Nat.zero_le _, rfl, Lib.hid HV.out, rfl⟩
 case round =>
  obtain ⟨k, hk, rfl, HR, rfl⟩ := hrel
  by_cases hlt : k < m
  ·obtain ⟨b, o, x, rfl, hd, hc⟩ := bools_at HA.out (k := k) (by rw [← HM.out]; exact hlt)
   have HR2 := Lib.hid (HR.out.trans (congrArg busyL hd)); clear HR hd
   cases x with
   | true =>
    have HR3 : Hid (V = true) := Lib.hid HR2.out; clear HR2
    go_wp2_with fail
    go_ret
    exact ⟨by rw [HR3.out]; rfl, HB⟩
   | false =>
    have HR3 : Hid (V = busyL (t.ov.drop (k + 1))) := Lib.hid HR2.out; clear HR2
    go_wp2_with fail
    go_roundw
    case rel => exact ⟨k + 1, by omega, by go_num, HR3, trivial⟩
    case measure => simp [intOf]; omega
  ·obtain rfl : k = m := by omega
   have HR3 : Hid (V = false) := Lib.hid (HR.out.trans (by rw [List.drop_of_length_le (by rw [← HM.out]; exact Nat.le_refl _)]; rfl)); clear HR
   go_wp2_with fail
   go_ret
   exact ⟨by rw [HR3.out]; rfl, HB⟩
theorem part_cost (w : World) (a b c d e f g : Value) : (part 42 #[a, b, c, d, e, f, g] 2).run Tryz.prog w = .ok (.agg #[c, d]) w := by kernel_rfl
theorem part_i (w : World) (xs : Array Value) (i : Nat) (v : Value) (h : xs[i]? = some v) : (part 3 xs i).run Tryz.prog w = .ok v w := run_part_plain w (by kernel_rfl) h
theorem eq_i (d : Nat) (w : World) (a b : Int) : (Op.equalIn (d + 1) 3 (.int .i64 a) (.int .i64 b)).run Tryz.prog w = .ok (a == b) w := run_equalIn_int w d 3 .i64 .i64 a b Tryz.underlying3
theorem eq_cost (d : Nat) (w : World) (a b c e : Int) : (Op.equalIn (d + 2) 42 (.agg #[.int .i64 a, .int .i64 b]) (.agg #[.int .i64 c, .int .i64 e])).run Tryz.prog w = .ok (a == c && b == e) w := by
 obtain ⟨i, hi⟩ := info_of_underlying (P := Tryz.prog) Tryz.underlying3
 rw [run_equalIn_array w (d + 1) _ _ Tryz.underlying42 hi, show Tryz.prog.cellsOf 3 = 1 by kernel_rfl]
 simp only [List.range_succ, List.range_zero, List.nil_append, List.cons_append, Op.eqItems, Sem.run_bind, Sem.run_ite, Sem.run_pure]
 rw [part_i w _ _ (.int .i64 a) rfl]; simp only [Result.andThen_ok]
 rw [part_i w _ _ (.int .i64 c) rfl]; simp only [Result.andThen_ok, eq_i]
 rw [part_i w _ _ (.int .i64 b) rfl]; simp only [Result.andThen_ok]
 rw [part_i w _ _ (.int .i64 e) rfl]; simp only [Result.andThen_ok, eq_i]
 cases a == c <;> cases b == e <;> rfl
theorem eqF_int {d : Nat} {w : World} {xs ys : Array Value} {f : Field} {fs : List Field} {a b : Int} {r : Bool} (hn : f.name ≠ "_") (ht : f.type = 3) (hx : xs[f.offset]? = some (.int .i64 a)) (hy : ys[f.offset]? = some (.int .i64 b))
  (h : (Op.eqFields (d + 1) xs ys fs).run Tryz.prog w = .ok r w) : (Op.eqFields (d + 1) xs ys (f :: fs)).run Tryz.prog w = .ok (a == b && r) w := by
 simp only [Op.eqFields, if_pos hn, Sem.run_bind, Sem.run_ite, Sem.run_pure, ht, part_i w _ _ _ hx, part_i w _ _ _ hy, Result.andThen_ok, eq_i, h]
 cases a == b <;> rfl
theorem eqF_cost {d : Nat} {w : World} {xs ys : Array Value} {f : Field} {fs : List Field} {a b c e : Int} {r : Bool} (hn : f.name ≠ "_") (ht : f.type = 42) (hx : (part 42 xs f.offset).run Tryz.prog w = .ok (.agg #[.int .i64 a, .int .i64 b]) w) (hy : (part 42 ys f.offset).run Tryz.prog w = .ok (.agg #[.int .i64 c, .int .i64 e]) w)
  (h : (Op.eqFields (d + 2) xs ys fs).run Tryz.prog w = .ok r w) : (Op.eqFields (d + 2) xs ys (f :: fs)).run Tryz.prog w = .ok ((a == c && b == e) && r) w := by
 simp only [Op.eqFields, if_pos hn, Sem.run_bind, Sem.run_ite, Sem.run_pure, ht, hx, hy, Result.andThen_ok, eq_cost, h]
 cases a == c && b == e <;> rfl
theorem link_ext {x y : Lnk} : (x = y) ↔ (x.a = y.a ∧ x.b = y.b ∧ (x.c0 = y.c0 ∧ x.c1 = y.c1) ∧ x.cap = y.cap ∧ x.dl = y.dl ∧ x.g = y.g) := by
 cases x; cases y; simp [and_assoc]
theorem link_dec (x y : Lnk) : decide (x = y) = (x.a == y.a && (x.b == y.b && ((x.c0 == y.c0 && x.c1 == y.c1) && (x.cap == y.cap && (x.dl == y.dl && (x.g == y.g && true)))))) := by
 rw [Bool.eq_iff_iff, decide_eq_true_eq, link_ext]; simp [and_assoc]
theorem link_eq (x y : Lnk) (w : World) : (Op.equalIn 10000 44 (.agg #[.int .i64 x.a, .int .i64 x.b, .int .i64 x.c0, .int .i64 x.c1, .int .i64 x.cap, .int .i64 x.dl, .int .i64 x.g]) (.agg #[.int .i64 y.a, .int .i64 y.b, .int .i64 y.c0, .int .i64 y.c1, .int .i64 y.cap, .int .i64 y.dl, .int .i64 y.g])).run Tryz.prog w = .ok (decide (x = y)) w := by
 rw [run_equalIn_struct w 9999 44 _ _ (by kernel_rfl) (by kernel_rfl), link_dec]
 simp only [Program.fieldsOf, Tryz.underlying44]
 exact eqF_int (by decide) rfl rfl rfl (eqF_int (by decide) rfl rfl rfl (eqF_cost (by decide) rfl (part_cost ..) (part_cost ..) (eqF_int (by decide) rfl rfl rfl (eqF_int (by decide) rfl rfl rfl (eqF_int (by decide) rfl rfl rfl (by simp [Op.eqFields]))))))
theorem link_neq (x y : Lnk) (w : World) : (binOp .neq 44 (.agg #[.int .i64 x.a, .int .i64 x.b, .int .i64 x.c0, .int .i64 x.c1, .int .i64 x.cap, .int .i64 x.dl, .int .i64 x.g]) (.agg #[.int .i64 y.a, .int .i64 y.b, .int .i64 y.c0, .int .i64 y.c1, .int .i64 y.cap, .int .i64 y.dl, .int .i64 y.g])).run Tryz.prog w = .ok (.bool (!decide (x = y))) w := by
 rw [run_neq_struct, link_eq]; rfl
theorem link_neq_f {x y : Lnk} (h : x = y) (w : World) : (binOp .neq 44 (.agg #[.int .i64 x.a, .int .i64 x.b, .int .i64 x.c0, .int .i64 x.c1, .int .i64 x.cap, .int .i64 x.dl, .int .i64 x.g]) (.agg #[.int .i64 y.a, .int .i64 y.b, .int .i64 y.c0, .int .i64 y.c1, .int .i64 y.cap, .int .i64 y.dl, .int .i64 y.g])).run Tryz.prog w = .ok (.bool false) w := by
 rw [link_neq]; simp [h]
theorem link_neq_t {x y : Lnk} (h : ¬ x = y) (w : World) : (binOp .neq 44 (.agg #[.int .i64 x.a, .int .i64 x.b, .int .i64 x.c0, .int .i64 x.c1, .int .i64 x.cap, .int .i64 x.dl, .int .i64 x.g]) (.agg #[.int .i64 y.a, .int .i64 y.b, .int .i64 y.c0, .int .i64 y.c1, .int .i64 y.cap, .int .i64 y.dl, .int .i64 y.g])).run Tryz.prog w = .ok (.bool true) w := by
 rw [link_neq]; simp [h]
attribute [-go_sem] run_neq_struct run_equalIn_agg
theorem links_at {w : World} {A : Option Addr} {ls : List Lnk} {k : Nat} (h : RdL w A ls) (hk : k < ls.length) : ∃ b o l, A = some ⟨b, o, none⟩ ∧ ls.drop k = l :: ls.drop (k + 1) ∧ LAt w b (o + k * 7) l := by
 obtain ⟨b, o, l, hA, hl, hc⟩ := h.at_ hk
 rw [List.getElem?_eq_getElem hk] at hl
 injection hl with hl
 exact ⟨b, o, l, hA, by rw [← hl]; exact List.drop_eq_getElem_cons hk, hc⟩
def same (t u : Topo) : Bool := decide (t.n = u.n) && decide (t.ls = u.ls) && (if busyL t.ov = false ∧ busyL u.ov = false then true else decide (t.ov = u.ov))
theorem same_n {t u : Topo} (h : ¬ t.n = u.n) : same t u = false := by simp [same, h]
theorem same_ls {t u : Topo} (h : ¬ t.ls = u.ls) : same t u = false := by simp [same, h]
theorem same_free {t u : Topo} (h1 : t.n = u.n) (h2 : t.ls = u.ls) (h3 : busyL t.ov = false) (h4 : busyL u.ov = false) : same t u = true := by simp [same, h1, h2, h3, h4]
theorem same_ov {t u : Topo} (h1 : t.n = u.n) (h2 : t.ls = u.ls) (h3 : ¬ (busyL t.ov = false ∧ busyL u.ov = false)) : same t u = decide (t.ov = u.ov) := by simp only [same, h1, h2, if_neg h3, decide_true, Bool.true_and]
theorem same_busy {t u : Topo} (h : (busyL t.ov != busyL u.ov) = true) : same t u = false := by
 have h' : ¬ t.ov = u.ov := by intro e; rw [e] at h; simp at h
 have h2 : ¬ (busyL t.ov = false ∧ busyL u.ov = false) := by rintro ⟨a, b⟩; rw [a, b] at h; simp at h
 simp [same, if_neg h2, h']
theorem same_refl (t : Topo) : same t t = true := by simp [same]
theorem boxes (w : World) (x y z x' y' z' : Value) (T : TypeId) :
  ((w.alloc (.cells #[x, y, z] T)).alloc (.cells #[x', y', z'] T)).cell? ⟨w.heap.size, 0, none⟩ = some x ∧ ((w.alloc (.cells #[x, y, z] T)).alloc (.cells #[x', y', z'] T)).cell? ⟨w.heap.size, 1, none⟩ = some y ∧ ((w.alloc (.cells #[x, y, z] T)).alloc (.cells #[x', y', z'] T)).cell? ⟨w.heap.size, 2, none⟩ = some z ∧
  ((w.alloc (.cells #[x, y, z] T)).alloc (.cells #[x', y', z'] T)).cell? ⟨w.heap.size + 1, 0, none⟩ = some x' ∧ ((w.alloc (.cells #[x, y, z] T)).alloc (.cells #[x', y', z'] T)).cell? ⟨w.heap.size + 1, 1, none⟩ = some y' ∧ ((w.alloc (.cells #[x, y, z] T)).alloc (.cells #[x', y', z'] T)).cell? ⟨w.heap.size + 1, 2, none⟩ = some z' := by
 refine ⟨?_, ?_, ?_, ?_, ?_, ?_⟩ <;> simp
end Go.Proofs.YtfimacgmciogmaaGreatDoor
