/-
  The check of traces in plain Lean: facts, packets, what the checker keeps, its rules; the violations of a beginning.
  The states of nodes and the marks of arcs behind a trace, as the document says them, and as a checker keeps them; whether a network had settled.
-/
import Derived.Test.YtdnjflpmbnjgeaaPkRtJ
import Derived.Test.YtdnjflpmbnjgeaaPkEvent
import Derived.Test.YtdnjflpmbnjgeaaEv
namespace Go.Proofs.Ytdnjflpmbnjgeaa
/-- An outage: from, to, the component's kind and number. -/
structure OutN where
  fr : Int
  tu : Int
  k : Int
  m : Int
/-- A packet, with its stack's place, length and capacity. -/
structure PkN where
  id : Int
  src : Int
  dst : Int
  fl : Int
  st : Option Addr
  sn : Nat
  sc : Nat
  hops : Int
structure FaN where
  t : Topo
  det : Int
  ga : Int
  ho : Int
  out : List OutN
def outOk (t : Topo) (o : OutN) : Bool := (compV t o.k o.m && inR o.fr 1 1073741824) && ((o.tu == 0) || inR o.tu o.fr 1073741824)
def timOk (f : FaN) : Bool := inR f.det 0 65536 && (inR f.ga 1 65536 && inR f.ho 1 65536)
def pkOk (t : Topo) (ids : List Int) (p : PkN) : Bool := !ids.contains p.id && (inR p.id 0 1073741824 && (isN t.n p.src && isN t.n p.dst))
def pksOk (t : Topo) : List Int → List PkN → Bool
  | _, [] => true
  | ids, p :: r => pkOk t ids p && pksOk t (ids ++ [p.id]) r
/-- An event names only what there is. -/
def namedB (t : Topo) (e : Ev) : Bool :=
  if e.k = 5 ∨ e.k = 6 then compV t e.a e.r
  else if e.k = 2 ∨ e.k = 7 then isN t.n e.n && isN (2 * (t.ls.length : Int)) e.a
  else if e.k = 4 then isN t.n e.n && (!onArcB e.r || isN (2 * (t.ls.length : Int)) e.a)
  else if e.k = 9 then isN t.n e.n && isN t.n e.a
  else isN t.n e.n
/-- Facts, packets and a trace belong together. -/
def vyOk (f : FaN) (ps : List PkN) (tr : List Ev) : Bool := (valid f.t && timOk f) && (f.out.all (outOk f.t) && (pksOk f.t [] ps && (trOk tr && tr.all (namedB f.t))))
/-- What a checker keeps. -/
structure CkS where
  dn : Int → Bool
  st : List Int
  en : List Int
  ch : List Int
  up : List Bool
  sn : Int → Bool
  sa : Int → Int → Int → Bool
  ar : Int → Int → Option Int
  fw : Int → Int → Int → Bool
  cr : Int → Int → Int
def CkS.new (t : Topo) : CkS := ⟨fun _ => false, List.replicate t.n.toNat 3, List.replicate t.n.toNat 0, List.replicate t.n.toNat 0, List.replicate (2 * t.ls.length) false, fun _ => false, fun _ _ _ => false, fun _ _ => none, fun _ _ _ => false, fun _ _ => 0⟩
def earlyB (s : Int) : Bool := (s == 0) || (s == 1)
def getI (l : List Int) (i : Int) : Int := l.getD i.toNat 0
/-- The arcs of a node are taken down. -/
def offU (t : Topo) (n : Int) (up : List Bool) : List Bool := (List.range up.length).map fun a => up.getD a false && !(tail t (a : Int) == n)
def seeS (t : Topo) (c : CkS) (e : Ev) : CkS :=
  if e.k = 1 then { c with sn := fun p => if p = e.p then true else c.sn p, sa := fun p n x => if p = e.p ∧ n = e.n ∧ x = e.t then true else c.sa p n x }
  else if e.k = 2 then
    let time := e.t + (lnk t e.a).dl
    { c with
      ar := fun p n => if p = e.p ∧ n = head t e.a then (match c.ar p n with | some l => if time < l then some time else some l | none => some time) else c.ar p n
      fw := fun p n a => if p = e.p ∧ n = e.n ∧ a = e.a then true else c.fw p n a
      cr := fun p a => if p = e.p ∧ a = e.a then c.cr p a + 1 else c.cr p a }
  else if e.k = 5 then (if e.a = 2 then { c with dn := fun n => if n = e.r then true else c.dn n } else c)
  else if e.k = 6 then (if e.a = 2 then { c with dn := fun n => if n = e.r then false else c.dn n, st := c.st.set e.r.toNat 3, up := offU t e.r c.up } else c)
  else if e.k = 7 then (if tail t e.a = e.n then { c with up := c.up.set e.a.toNat (e.r == 2) } else c)
  else if e.k = 8 then { c with en := if earlyB e.r && !earlyB (getI c.st e.n) then c.en.set e.n.toNat e.t else c.en, st := c.st.set e.n.toNat e.r, ch := c.ch.set e.n.toNat e.t }
  else c
def ofPkB (e : Ev) : Bool := inR e.k 1 4
def lossB (e : Ev) : Bool := (e.k == 4) && onArcB e.r
def handB (e : Ev) : Bool := (e.k == 2) || (e.k == 3) || ((e.k == 4) && !onArcB e.r)
/-- The packet with an ID. -/
def pkOf (ps : List PkN) (id : Int) : Option PkN := ps.find? fun p => p.id == id
def stateV (c : CkS) (e : Ev) : Bool :=
  if e.k = 8 then (if e.r = 2 then !earlyB (getI c.st e.n) else if e.r = 3 then !(getI c.st e.n == 2) else getI c.st e.n == e.r) else false
def timeV (f : FaN) (c : CkS) (e : Ev) : Bool :=
  if e.k = 8 ∧ stateV c e = false then
    (if e.r = 2 then !(e.t - getI c.en e.n == f.ga) && !(e.t - getI c.en e.n == f.ga - 1)
     else (getI c.st e.n == 2) && decide (e.t - getI c.ch e.n < f.ho))
  else false
def outgV (f : FaN) (e : Ev) : Bool :=
  if e.k = 5 ∨ e.k = 6 then !(f.out.any fun o => ((o.k == e.a) && (o.m == e.r)) && (((e.k == 5) && (o.fr == e.t)) || ((e.k == 6) && (o.tu == e.t)))) else false
def origV (ps : List PkN) (c : CkS) (e : Ev) : Bool :=
  match pkOf ps e.p with
  | none => false
  | some p =>
    if e.k = 1 then !(e.n == p.src) || c.sn e.p
    else if handB e = false ∨ c.sa e.p e.n e.t = true then false
    else match c.ar e.p e.n with
      | none => true
      | some l => decide (e.t < l)
/-- The rules, by their number (from 0). -/
def ruleV (f : FaN) (ps : List PkN) (prot : Int → Bool) (fail : List Bool) (c : CkS) (e : Ev) : Nat → Bool
  | 0 => ofPkB e && (pkOf ps e.p).isNone
  | 1 => origV ps c e
  | 2 => if e.k = 2 then !(tail f.t e.a == e.n) else lossB e && !c.fw e.p e.n e.a
  | 3 => match pkOf ps e.p with | none => false | some p => (e.k == 3) && !(e.n == p.dst)
  | 4 => (e.k == 2) && !c.up.getD e.a.toNat false
  | 5 => stateV c e
  | 6 => timeV f c e
  | 7 => outgV f e
  | 8 => if e.k = 1 ∨ e.k = 7 ∨ e.k = 8 ∨ e.k = 9 then c.dn e.n else handB e && c.dn e.n
  | 9 => if e.k = 4 ∧ prot e.p = true ∧ ¬ e.r = 6 then (!(e.r == 7) || fail.getD e.a.toNat false) else false
  | 10 => (e.k == 2) && (prot e.p && decide (2 ≤ c.cr e.p e.a))
  | _ => false
/-- The violations at one event. -/
def hitsV (f : FaN) (ps : List PkN) (prot : Int → Bool) (fail : List Bool) (c : CkS) (e : Ev) (i : Nat) : Nat → List (Int × Int)
  | 0 => []
  | k + 1 => hitsV f ps prot fail c e i k ++ (if ruleV f ps prot fail c e k = true then [((i : Int), (k : Int) + 1)] else [])
def runV (f : FaN) (ps : List PkN) (prot : Int → Bool) (fail : List Bool) : CkS → Nat → List Ev → List (Int × Int)
  | _, _, [] => []
  | c, i, e :: r => hitsV f ps prot fail c e i 11 ++ runV f ps prot fail (seeS f.t c e) (i + 1) r
theorem rule_same (f : FaN) (ps : List PkN) (p1 p2 : Int → Bool) (f1 f2 : List Bool) (c : CkS) (e : Ev) {k : Nat} (hk : k < 9) : ruleV f ps p1 f1 c e k = ruleV f ps p2 f2 c e k := by
  match k, hk with
  | 0, _ => rfl
  | 1, _ => rfl
  | 2, _ => rfl
  | 3, _ => rfl
  | 4, _ => rfl
  | 5, _ => rfl
  | 6, _ => rfl
  | 7, _ => rfl
  | 8, _ => rfl
def lowV (x : Int × Int) : Bool := decide (x.2 ≤ 9)
theorem hits_low (f : FaN) (ps : List PkN) (prot : Int → Bool) (fail : List Bool) (c : CkS) (e : Ev) (i : Nat) : (hitsV f ps prot fail c e i 11).filter lowV = hitsV f ps prot fail c e i 9 := by
  have h : ∀ k, k ≤ 9 → (hitsV f ps prot fail c e i k).filter lowV = hitsV f ps prot fail c e i k := by
    intro k
    induction k with
    | zero => intro _; rfl
    | succ k ih =>
      intro hk
      rw [hitsV, List.filter_append, ih (by omega)]
      congr 1
      split
      · rw [List.filter_cons_of_pos (by unfold lowV; rw [decide_eq_true_eq]; show (k : Int) + 1 ≤ 9; omega)]; rfl
      · rfl
  have hn : ∀ k, 9 ≤ k → ((if ruleV f ps prot fail c e k = true then [((i : Int), (k : Int) + 1)] else []).filter lowV) = [] := by
    intro k hk
    split
    · rw [List.filter_cons_of_neg (by unfold lowV; rw [decide_eq_true_eq]; show ¬ (k : Int) + 1 ≤ 9; omega)]; rfl
    · rfl
  rw [hitsV, hitsV, List.filter_append, List.filter_append, hn 10 (by omega), hn 9 (by omega), h 9 (Nat.le_refl _), List.append_nil, List.append_nil]
theorem hits_same (f : FaN) (ps : List PkN) (p1 p2 : Int → Bool) (f1 f2 : List Bool) (c : CkS) (e : Ev) (i : Nat) : ∀ k, k ≤ 9 → hitsV f ps p1 f1 c e i k = hitsV f ps p2 f2 c e i k
  | 0, _ => rfl
  | k + 1, h => by rw [hitsV, hitsV, hits_same f ps p1 p2 f1 f2 c e i k (by omega), rule_same f ps p1 p2 f1 f2 c e (by omega)]
theorem hits_idx (f : FaN) (ps : List PkN) (prot : Int → Bool) (fail : List Bool) (c : CkS) (e : Ev) (i : Nat) : ∀ k, ∀ x ∈ hitsV f ps prot fail c e i k, x.1 = (i : Int)
  | 0, x, h => by cases h
  | k + 1, x, h => by
    rw [hitsV] at h
    rcases List.mem_append.1 h with h | h
    · exact hits_idx f ps prot fail c e i k x h
    · split at h
      · rw [List.mem_singleton.1 h]
      · cases h
theorem run_idx (f : FaN) (ps : List PkN) (prot : Int → Bool) (fail : List Bool) : ∀ (r : List Ev) (c : CkS) (i : Nat), ∀ x ∈ runV f ps prot fail c i r, (i : Int) ≤ x.1
  | [], _, _, x, h => by cases h
  | e :: r, c, i, x, h => by
    rw [runV] at h
    rcases List.mem_append.1 h with h | h
    · rw [hits_idx f ps prot fail c e i 11 x h]; exact Int.le_refl _
    · have := run_idx f ps prot fail r _ (i + 1) x h
      omega
/-- The violations of the kinds 1 to 9 in a beginning are those of the whole trace with lesser indices. -/
theorem run_take (f : FaN) (ps : List PkN) (p1 p2 : Int → Bool) (f1 f2 : List Bool) : ∀ (r : List Ev) (k : Nat) (c : CkS) (i : Nat),
    ((runV f ps p1 f1 c i r).filter fun x => lowV x && decide (x.1 < ((i + k : Nat) : Int))) = (runV f ps p2 f2 c i (r.take k)).filter lowV
  | [], k, c, i => by simp [runV]
  | e :: r, 0, c, i => by
    rw [List.take_zero]
    show _ = []
    rw [List.filter_eq_nil_iff]
    intro x hx
    have := run_idx f ps p1 f1 (e :: r) c i x hx
    simp
    omega
  | e :: r, k + 1, c, i => by
    have ih := run_take f ps p1 p2 f1 f2 r k (seeS f.t c e) (i + 1)
    rw [show i + 1 + k = i + (k + 1) by omega] at ih
    rw [List.take_succ_cons, runV, runV, List.filter_append, List.filter_append, ih, hits_low, hits_same f ps p2 p1 f2 f1 c e i 9 (Nat.le_refl _), ← hits_low]
    congr 1
    refine List.filter_congr fun x hx => ?_
    rw [hits_idx f ps p1 f1 c e i 11 x hx]
    simp
    intro
    omega
end Go.Proofs.Ytdnjflpmbnjgeaa
namespace Go.Proofs.Ytdnjflpmbnjgeaa
set_option linter.unusedSimpArgs false
def rstB (e : Ev) (n : Int) : Bool := (e.k == 6) && ((e.a == 2) && (e.r == n))
def stR (l : List Ev) (n : Int) : Int := l.foldl (fun s e => if e.k = 8 ∧ e.n = n then e.r else if rstB e n = true then 3 else s) 3
def upR (t : Topo) (l : List Ev) (a : Int) : Bool := l.foldl (fun u e => if e.k = 7 ∧ e.n = tail t a ∧ e.a = a then e.r == 2 else if rstB e (tail t a) = true then false else u) false
def ckR (t : Topo) (l : List Ev) : CkS := l.foldl (seeS t) (CkS.new t)
theorem stR_snoc (l : List Ev) (e : Ev) (n : Int) : stR (l ++ [e]) n = if e.k = 8 ∧ e.n = n then e.r else if rstB e n = true then 3 else stR l n := by simp [stR]
theorem upR_snoc (t : Topo) (l : List Ev) (e : Ev) (a : Int) : upR t (l ++ [e]) a = if e.k = 7 ∧ e.n = tail t a ∧ e.a = a then e.r == 2 else if rstB e (tail t a) = true then false else upR t l a := by simp [upR]
theorem ckR_snoc (t : Topo) (l : List Ev) (e : Ev) : ckR t (l ++ [e]) = seeS t (ckR t l) e := by simp [ckR]
theorem getI_set {l : List Int} {i j x : Int} (hi : 0 ≤ i) (hj : 0 ≤ j) (hl : i < (l.length : Int)) : getI (l.set i.toNat x) j = if i = j then x else getI l j := by
  unfold getI
  rw [List.getD_eq_getElem?_getD, List.getElem?_set]
  by_cases e : i = j
  · subst e; rw [if_pos rfl, if_pos rfl, if_pos (by omega)]; rfl
  · rw [if_neg e, if_neg (by omega), List.getD_eq_getElem?_getD]
theorem getB_set {l : List Bool} {i j : Int} {x : Bool} (hi : 0 ≤ i) (hj : 0 ≤ j) (hl : i < (l.length : Int)) : (l.set i.toNat x).getD j.toNat false = if i = j then x else l.getD j.toNat false := by
  rw [List.getD_eq_getElem?_getD, List.getElem?_set]
  by_cases e : i = j
  · subst e; rw [if_pos rfl, if_pos rfl, if_pos (by omega)]; rfl
  · rw [if_neg e, if_neg (by omega), List.getD_eq_getElem?_getD]
theorem offU_len (t : Topo) (n : Int) (up : List Bool) : (offU t n up).length = up.length := by simp [offU]
theorem offU_at (t : Topo) (n : Int) (up : List Bool) {j : Int} (hj : 0 ≤ j) (hl : j < (up.length : Int)) : (offU t n up).getD j.toNat false = (up.getD j.toNat false && !(tail t j == n)) := by
  have h2 : j.toNat < up.length := by omega
  have h3 : ((j.toNat : Nat) : Int) = j := by omega
  rw [List.getD_eq_getElem?_getD]
  simp [offU, List.getElem?_map, h2, h3]
/-- A checker's rows, and what the document says. -/
structure CkR (t : Topo) (l : List Ev) : Prop where
  sl : (ckR t l).st.length = t.n.toNat
  el : (ckR t l).en.length = t.n.toNat
  cl : (ckR t l).ch.length = t.n.toNat
  ul : (ckR t l).up.length = 2 * t.ls.length
  st : ∀ n, 0 ≤ n → n < t.n → getI (ckR t l).st n = stR l n
  up : ∀ a, 0 ≤ a → a < 2 * (t.ls.length : Int) → (ckR t l).up.getD a.toNat false = upR t l a
theorem ck_nil (t : Topo) : CkR t [] := by
  refine ⟨by simp [ckR, CkS.new], by simp [ckR, CkS.new], by simp [ckR, CkS.new], by simp [ckR, CkS.new], fun n h0 h1 => ?_, fun a h0 h1 => ?_⟩
  · have : n.toNat < t.n.toNat := by omega
    simp [ckR, CkS.new, getI, stR, List.getD_eq_getElem?_getD, this]
  · simp [ckR, CkS.new, upR, List.getD_eq_getElem?_getD]
    by_cases h : a.toNat < 2 * t.ls.length <;> simp [h]
theorem see_len (t : Topo) (c : CkS) (e : Ev) : (seeS t c e).st.length = c.st.length ∧ (seeS t c e).en.length = c.en.length ∧ (seeS t c e).ch.length = c.ch.length ∧ (seeS t c e).up.length = c.up.length := by
  unfold seeS
  repeat' split
  all_goals simp [offU_len]
theorem ck_snoc {t : Topo} {l : List Ev} {e : Ev} (hn : namedB t e = true) (h : CkR t l) : CkR t (l ++ [e]) := by
  obtain ⟨l1, l2, l3, l4⟩ := see_len t (ckR t l) e
  refine ⟨by rw [ckR_snoc, l1, h.sl], by rw [ckR_snoc, l2, h.el], by rw [ckR_snoc, l3, h.cl], by rw [ckR_snoc, l4, h.ul], fun n h0 h1 => ?_, fun a h0 h1 => ?_⟩
  · rw [ckR_snoc, stR_snoc, ← h.st n h0 h1]
    have hs := h.sl
    generalize ckR t l = c at *
    unfold seeS rstB
    by_cases k1 : e.k = 1
    · simp [k1]
    by_cases k2 : e.k = 2
    · simp [k2]
    by_cases k5 : e.k = 5
    · simp [k5]
      split <;> rfl
    by_cases k6 : e.k = 6
    · simp [k6]
      by_cases ha : e.a = 2
      · have hc : isN t.n e.r = true := by
          have := hn
          unfold namedB at this
          rw [if_pos (.inr k6), ha] at this
          unfold compV at this
          rw [compOk2] at this
          simp at this
          exact this.2
        obtain ⟨r0, r1⟩ := isN_true.1 hc
        simp only [ha, if_true, true_and]
        rw [getI_set r0 h0 (by omega)]
      · simp [ha]
    by_cases k7 : e.k = 7
    · simp [k7]
      split <;> rfl
    by_cases k8 : e.k = 8
    · simp [k8]
      have hc : isN t.n e.n = true := by
        have := hn
        unfold namedB at this
        rwa [if_neg (by omega), if_neg (by omega), if_neg (by omega), if_neg (by omega)] at this
      obtain ⟨r0, r1⟩ := isN_true.1 hc
      rw [getI_set r0 h0 (by omega)]
    · simp [k1, k2, k5, k6, k7, k8]
  · rw [ckR_snoc, upR_snoc, ← h.up a h0 h1]
    have hs := h.ul
    generalize ckR t l = c at *
    unfold seeS rstB
    by_cases k1 : e.k = 1
    · simp [k1]
    by_cases k2 : e.k = 2
    · simp [k2]
    by_cases k5 : e.k = 5
    · simp [k5]
      split <;> rfl
    by_cases k6 : e.k = 6
    · simp only [k6, Int.reduceEq, false_and, if_false, if_true, beq_self_eq_true, Bool.true_and]
      by_cases ha : e.a = 2
      · simp only [ha, if_true, beq_self_eq_true, Bool.true_and]
        rw [offU_at t e.r c.up h0 (by omega)]
        by_cases e2 : e.r = tail t a
        · simp [e2]
        · have : ¬ tail t a = e.r := fun h => e2 h.symm
          simp [e2, this]
      · simp [ha]
    by_cases k7 : e.k = 7
    · have hc : isN (2 * (t.ls.length : Int)) e.a = true := by
        have := hn
        unfold namedB at this
        rw [if_neg (by omega), if_pos (.inr k7)] at this
        simp at this
        exact this.2
      obtain ⟨r0, r1⟩ := isN_true.1 hc
      simp only [k7, Int.reduceEq, false_and, if_false, if_true, true_and, Int.reduceBEq, Bool.false_and, Bool.false_eq_true]
      by_cases ht : tail t e.a = e.n
      · rw [if_pos ht]
        show (c.up.set e.a.toNat (e.r == 2)).getD a.toNat false = _
        rw [getB_set r0 h0 (by omega)]
        by_cases e2 : e.a = a
        · subst e2
          rw [if_pos rfl, if_pos ⟨ht.symm, rfl⟩]
        · rw [if_neg e2, if_neg (fun h => e2 h.2)]
      · rw [if_neg ht]
        rw [if_neg]
        rintro ⟨e1, e2⟩
        rw [e2] at ht
        exact ht e1.symm
    by_cases k8 : e.k = 8
    · simp [k8]
    · simp [k1, k2, k5, k6, k7, k8]
theorem ck_app {t : Topo} : ∀ (l pre : List Ev), (∀ e ∈ l, namedB t e = true) → CkR t pre → CkR t (pre ++ l)
  | [], pre, _, h => by rwa [List.append_nil]
  | e :: l, pre, hn, h => by
    rw [show pre ++ e :: l = (pre ++ [e]) ++ l by simp]
    exact ck_app l _ (fun x hx => hn x (by simp [hx])) (ck_snoc (hn e (by simp)) h)
theorem ck_all {t : Topo} (l : List Ev) (hn : ∀ e ∈ l, namedB t e = true) : CkR t l := by
  have := ck_app l [] hn (ck_nil t)
  simpa using this
/-- The same, as a checker finds it. -/
def setC (t : Topo) (k m : Int) : CkS → List Ev → Bool
  | _, [] => false
  | c, e :: r => if e.k = 5 ∧ e.a = k ∧ e.r = m then c.st.all (fun s => s == 3) && c.up.all id else setC t k m (seeS t c e) r
end Go.Proofs.Ytdnjflpmbnjgeaa
