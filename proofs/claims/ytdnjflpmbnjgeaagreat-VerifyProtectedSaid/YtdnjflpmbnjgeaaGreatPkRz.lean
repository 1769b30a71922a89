/-
  Four rules of the check at events of the kinds 1 to 3 (printed by gen_rz.py).
  The eleven rules of the check at one event (printed by gen_vk0.py).
  For verify.Check: which packets are known and protected, what is kept.
-/
import Derived.Test.YtdnjflpmbnjgeaaGreatRu8
set_option linter.unusedSimpArgs false
set_option linter.unusedVariables false
namespace Go.Proofs.YtdnjflpmbnjgeaaGreat
section
open Go.RowKit Go.Sort
section
variable {w : World} {x kd n ar p r : Int} {cb : Nat}
set_option maxRecDepth 100000 in
theorem rz_state (h : kd ≤ 3) : Calls Tryz.prog 22 #[.pointer (some ⟨cb, 0, none⟩), .agg #[.int .i64 x, .int .i64 kd, .int .i64 n, .int .i64 ar, .int .i64 p, .int .i64 r]] w (RetRu w false) := by
 have HB := hU (cQ w (.cells #[.int .i64 x, .int .i64 kd, .int .i64 n, .int .i64 ar, .int .i64 p, .int .i64 r] 43))
 obtain ⟨e0, e1, e2, e3, e4, e5, _⟩ := (Bl.new w #[.int .i64 x, .int .i64 kd, .int .i64 n, .int .i64 ar, .int .i64 p, .int .i64 r] 43).c6
 have g8 : (kd != 8) = true := by rw [bne_iff_ne]; omega
 clear h
 go_enter Tryz.func22, Tryz.ntmps22
 go_wp2_with fail
 go_ret
 exact ⟨rfl, HB.out⟩
set_option maxRecDepth 100000 in
theorem rz_timing (h : kd ≤ 3) : Calls Tryz.prog 23 #[.pointer (some ⟨cb, 0, none⟩), .agg #[.int .i64 x, .int .i64 kd, .int .i64 n, .int .i64 ar, .int .i64 p, .int .i64 r]] w (RetRu w false) := by
 have HB := hU (cQ w (.cells #[.int .i64 x, .int .i64 kd, .int .i64 n, .int .i64 ar, .int .i64 p, .int .i64 r] 43))
 obtain ⟨e0, e1, e2, e3, e4, e5, _⟩ := (Bl.new w #[.int .i64 x, .int .i64 kd, .int .i64 n, .int .i64 ar, .int .i64 p, .int .i64 r] 43).c6
 have g8 : (kd != 8) = true := by rw [bne_iff_ne]; omega
 clear h
 go_enter Tryz.func23, Tryz.ntmps23
 go_wp2_with fail
 go_ret
 exact ⟨rfl, HB.out⟩
set_option maxRecDepth 100000 in
theorem rz_outage (h : kd ≤ 3) : Calls Tryz.prog 24 #[.pointer (some ⟨cb, 0, none⟩), .agg #[.int .i64 x, .int .i64 kd, .int .i64 n, .int .i64 ar, .int .i64 p, .int .i64 r]] w (RetRu w false) := by
 have HB := hU (cQ w (.cells #[.int .i64 x, .int .i64 kd, .int .i64 n, .int .i64 ar, .int .i64 p, .int .i64 r] 43))
 obtain ⟨e0, e1, e2, e3, e4, e5, _⟩ := (Bl.new w #[.int .i64 x, .int .i64 kd, .int .i64 n, .int .i64 ar, .int .i64 p, .int .i64 r] 43).c6
 have g5 : (kd != 5) = true := by rw [bne_iff_ne]; omega
 have g6 : (kd != 6) = true := by rw [bne_iff_ne]; omega
 clear h
 go_enter Tryz.func24, Tryz.ntmps24
 go_wp2_with fail
 go_ret
 exact ⟨rfl, HB.out⟩
set_option maxRecDepth 100000 in
theorem rz_lost (h : kd ≤ 3) : Calls Tryz.prog 26 #[.pointer (some ⟨cb, 0, none⟩), .agg #[.int .i64 x, .int .i64 kd, .int .i64 n, .int .i64 ar, .int .i64 p, .int .i64 r]] w (RetRu w false) := by
 have HB := hU (cQ w (.cells #[.int .i64 x, .int .i64 kd, .int .i64 n, .int .i64 ar, .int .i64 p, .int .i64 r] 43))
 obtain ⟨e0, e1, e2, e3, e4, e5, _⟩ := (Bl.new w #[.int .i64 x, .int .i64 kd, .int .i64 n, .int .i64 ar, .int .i64 p, .int .i64 r] 43).c6
 have g4 : (kd != 4) = true := by rw [bne_iff_ne]; omega
 clear h
 go_enter Tryz.func26, Tryz.ntmps26
 go_wp2_with fail
 obtain ⟨P1, P2, P3, P4, P5, P6, -⟩ := kU e0 (kU e1 (kU e2 (kU e3 (kU e4 (kU e5 trivial)))))
 refine wp_region_quiet_below (by kernel_rfl) (by kernel_rfl) ?_
 repeat (go_big_quiet_step ((fail)))
 refine wpQuiet_nil ?_
 intro W2 hb2
 replace hb2 := eQ hb2
 clear P1 P2 P3 P4 P5 P6
 have zU := uU hb2 e0 (uU hb2 e1 (uU hb2 e2 (uU hb2 e3 (uU hb2 e4 (uU hb2 e5 trivial))))); clear e0 e1 e2 e3 e4 e5; obtain ⟨e0, e1, e2, e3, e4, e5, -⟩ := zU
 replace HB := hU (bQ HB.out hb2)
 go_wp2_with fail
 go_ret
 exact ⟨rfl, HB.out⟩
end
/-- What holds at an event. -/
structure RuH (w : World) (F : FaN) (A1 A2 O : Option Addr) (c1 c2 co : Nat) (Af : Option Addr) (cf : Nat) (fail : List Bool) (b : CkB) (ps : List PkN) (pr : Int → Bool) (c : CkS) (e : Ev) : Prop where
 C : CkAt F A1 A2 O c1 c2 co (.slice Af fail.length cf) b (pkOf ps) pr c w
 T : TAt w A1 A2 F.t
 v : valid F.t = true
 ev : evOk e = true
 nm : xQ F.t e = true
 l4 : c.up.length = 2 * F.t.ls.length
 k3 : e.k ≤ 3
theorem named2 {t : Topo} {x n ar p r : Int} (h : xQ t ⟨x, 2, n, ar, p, r⟩ = true) : 0 ≤ ar ∧ ar < 2 * (t.ls.length : Int) := by
 simp only [xQ] at h
 simp at h
 have := isN_true.1 h.2
 omega
section
variable {w : World} {F : FaN} {A1 A2 O : Option Addr} {c1 c2 co : Nat} {Af : Option Addr} {cf : Nat} {fail : List Bool} {b : CkB} {ps : List PkN} {pr : Int → Bool} {c : CkS} {x kd n ar p r : Int}
theorem RetRu.eq {v v' : Bool} {e : Ending} {w' : World} (h : RetRu w v e w') (hv : v = v') : RetRu w v' e w' := by subst hv; exact h
theorem ruk0 (h : RuH w F A1 A2 O c1 c2 co Af cf fail b ps pr c ⟨x, kd, n, ar, p, r⟩) : Calls Tryz.prog 17 #[.pointer (some ⟨b.cb, 0, none⟩), .agg #[.int .i64 x, .int .i64 kd, .int .i64 n, .int .i64 ar, .int .i64 p, .int .i64 r]] w (RetRu w (ruleV F ps pr fail c ⟨x, kd, n, ar, p, r⟩ 0)) := by
 refine (ru_unknown c x kd n ar p r h.C ⟨(evJ h.ev).2.2.2.1, (evJ h.ev).2.1⟩).mono fun e w' he => he.eq ?_
 show _ = (ofPkB _ && (pkOf ps p).isNone)
 cases pkOf ps p <;> rfl
theorem ruk1 (h : RuH w F A1 A2 O c1 c2 co Af cf fail b ps pr c ⟨x, kd, n, ar, p, r⟩) : Calls Tryz.prog 18 #[.pointer (some ⟨b.cb, 0, none⟩), .agg #[.int .i64 x, .int .i64 kd, .int .i64 n, .int .i64 ar, .int .i64 p, .int .i64 r]] w (RetRu w (ruleV F ps pr fail c ⟨x, kd, n, ar, p, r⟩ 1)) := by
 refine (ru_origin c x kd n ar p r h.C ⟨(evJ h.ev).2.2.2.1, (evJ h.ev).2.1, (evJ h.ev).1⟩).mono fun e w' he => he.eq ?_
 show _ = origV ps c _
 unfold origV
 show _ = match pkOf ps p with | none => _ | some p => _
 cases pkOf ps p <;> rfl
theorem ruk2 (h : RuH w F A1 A2 O c1 c2 co Af cf fail b ps pr c ⟨x, kd, n, ar, p, r⟩) : Calls Tryz.prog 19 #[.pointer (some ⟨b.cb, 0, none⟩), .agg #[.int .i64 x, .int .i64 kd, .int .i64 n, .int .i64 ar, .int .i64 p, .int .i64 r]] w (RetRu w (ruleV F ps pr fail c ⟨x, kd, n, ar, p, r⟩ 2)) := by
 exact ru_arc c x kd n ar p r h.C h.T (by have := zQ h.v; omega) ⟨(evJ h.ev).2.2.2.1, (evJ h.ev).2.1, (evJ h.ev).2.2.1⟩ (fun hk => by subst hk; exact named2 h.nm)
theorem ruk3 (h : RuH w F A1 A2 O c1 c2 co Af cf fail b ps pr c ⟨x, kd, n, ar, p, r⟩) : Calls Tryz.prog 20 #[.pointer (some ⟨b.cb, 0, none⟩), .agg #[.int .i64 x, .int .i64 kd, .int .i64 n, .int .i64 ar, .int .i64 p, .int .i64 r]] w (RetRu w (ruleV F ps pr fail c ⟨x, kd, n, ar, p, r⟩ 3)) := by
 refine (ru_end c x kd n ar p r h.C ⟨(evJ h.ev).2.2.2.1, (evJ h.ev).2.1⟩).mono fun e w' he => he.eq ?_
 show _ = match pkOf ps p with | none => _ | some p => _
 cases pkOf ps p <;> rfl
theorem ruk4 (h : RuH w F A1 A2 O c1 c2 co Af cf fail b ps pr c ⟨x, kd, n, ar, p, r⟩) : Calls Tryz.prog 21 #[.pointer (some ⟨b.cb, 0, none⟩), .agg #[.int .i64 x, .int .i64 kd, .int .i64 n, .int .i64 ar, .int .i64 p, .int .i64 r]] w (RetRu w (ruleV F ps pr fail c ⟨x, kd, n, ar, p, r⟩ 4)) := by
 exact ru_undetected c ⟨x, kd, n, ar, p, r⟩ h.C (fun hk => by
  simp only at hk ⊢
  subst hk
  have := named2 h.nm
  have := h.l4
  omega)
theorem ruk5 (h : RuH w F A1 A2 O c1 c2 co Af cf fail b ps pr c ⟨x, kd, n, ar, p, r⟩) : Calls Tryz.prog 22 #[.pointer (some ⟨b.cb, 0, none⟩), .agg #[.int .i64 x, .int .i64 kd, .int .i64 n, .int .i64 ar, .int .i64 p, .int .i64 r]] w (RetRu w (ruleV F ps pr fail c ⟨x, kd, n, ar, p, r⟩ 5)) := by
 have hk : kd ≤ 3 := h.k3
 refine (rz_state hk).mono fun e w' he => he.eq ?_
 show false = stateV c _
 rw [stateV, if_neg (by simp only; omega)]
theorem ruk6 (h : RuH w F A1 A2 O c1 c2 co Af cf fail b ps pr c ⟨x, kd, n, ar, p, r⟩) : Calls Tryz.prog 23 #[.pointer (some ⟨b.cb, 0, none⟩), .agg #[.int .i64 x, .int .i64 kd, .int .i64 n, .int .i64 ar, .int .i64 p, .int .i64 r]] w (RetRu w (ruleV F ps pr fail c ⟨x, kd, n, ar, p, r⟩ 6)) := by
 have hk : kd ≤ 3 := h.k3
 refine (rz_timing hk).mono fun e w' he => he.eq ?_
 show false = timeV F c _
 rw [timeV, if_neg (by simp only; omega)]
theorem ruk7 (h : RuH w F A1 A2 O c1 c2 co Af cf fail b ps pr c ⟨x, kd, n, ar, p, r⟩) : Calls Tryz.prog 24 #[.pointer (some ⟨b.cb, 0, none⟩), .agg #[.int .i64 x, .int .i64 kd, .int .i64 n, .int .i64 ar, .int .i64 p, .int .i64 r]] w (RetRu w (ruleV F ps pr fail c ⟨x, kd, n, ar, p, r⟩ 7)) := by
 have hk : kd ≤ 3 := h.k3
 refine (rz_outage hk).mono fun e w' he => he.eq ?_
 show false = outgV F _
 rw [outgV, if_neg (by simp only; omega)]
theorem ruk8 (h : RuH w F A1 A2 O c1 c2 co Af cf fail b ps pr c ⟨x, kd, n, ar, p, r⟩) : Calls Tryz.prog 25 #[.pointer (some ⟨b.cb, 0, none⟩), .agg #[.int .i64 x, .int .i64 kd, .int .i64 n, .int .i64 ar, .int .i64 p, .int .i64 r]] w (RetRu w (ruleV F ps pr fail c ⟨x, kd, n, ar, p, r⟩ 8)) := by
 by_cases hk : kd = 1 ∨ kd = 7 ∨ kd = 8 ∨ kd = 9
 ·refine (ru_dead1 c x kd n ar p r h.C (evJ h.ev).2.1 hk).mono fun e w' he => he.eq ?_
  exact (if_pos hk).symm
 ·have k1 : (kd == 1) = false := by simp; omega
  have k7 : (kd == 7) = false := by simp; omega
  have k8 : (kd == 8) = false := by simp; omega
  have k9 : (kd == 9) = false := by simp; omega
  refine (ru_dead2 c x kd n ar p r h.C (evJ h.ev).2.1 k1 k7 k8 k9).mono fun e w' he => he.eq ?_
  exact (if_neg hk).symm
theorem ruk9 (h : RuH w F A1 A2 O c1 c2 co Af cf fail b ps pr c ⟨x, kd, n, ar, p, r⟩) : Calls Tryz.prog 26 #[.pointer (some ⟨b.cb, 0, none⟩), .agg #[.int .i64 x, .int .i64 kd, .int .i64 n, .int .i64 ar, .int .i64 p, .int .i64 r]] w (RetRu w (ruleV F ps pr fail c ⟨x, kd, n, ar, p, r⟩ 9)) := by
 have hk : kd ≤ 3 := h.k3
 refine (rz_lost hk).mono fun e w' he => he.eq ?_
 show false = (if kd = 4 ∧ pr p = true ∧ ¬ r = 6 then (!(r == 7) || fail.getD ar.toNat false) else false)
 rw [if_neg (by omega)]
theorem ruk10 (h : RuH w F A1 A2 O c1 c2 co Af cf fail b ps pr c ⟨x, kd, n, ar, p, r⟩) : Calls Tryz.prog 27 #[.pointer (some ⟨b.cb, 0, none⟩), .agg #[.int .i64 x, .int .i64 kd, .int .i64 n, .int .i64 ar, .int .i64 p, .int .i64 r]] w (RetRu w (ruleV F ps pr fail c ⟨x, kd, n, ar, p, r⟩ 10)) := by
 exact ru_loop c x kd n ar p r h.C ⟨(evJ h.ev).2.2.2.1, (evJ h.ev).2.2.1⟩
end
theorem own_kpV {X : List Nat} {w w' : World} {B : Nat} {E : TypeId} {size : Nat} {v : Value} {n : Nat} {xs : List Value} (h : w.ownsRow B E size v n xs) (hK : Kp X w w') (hX : ∀ k ∈ X, k < B) : w'.ownsRow B E size v n xs := by
 rcases h with ⟨hl, h0 | ⟨g, cap, cur, rfl, hB, hgb, rest⟩⟩
 ·exact ⟨hl, .inl h0⟩
 ·refine ⟨hl, .inr ⟨g, cap, cur, rfl, hB, ?_, rest⟩⟩
  have hlt : g < w.heap.size := by
   rcases Nat.lt_or_ge g w.heap.size with h | h
   ·exact h
   ·rw [Array.getElem?_eq_none h] at hgb; cases hgb
  exact (hK.blk g hlt (fun hm => by have := hX g hm; omega)).trans hgb
theorem own_blkV {w : World} {B : Nat} {E : TypeId} {size : Nat} {v : Value} {n : Nat} {xs : List Value} (h : w.ownsRow B E size v n xs) {g : Nat} (e : v.ownBlock = some g) : ∃ cur, w.heap[g]? = some (.cells cur E (0, 0)) := by
 rcases h with ⟨hl, ⟨rfl, _⟩ | ⟨g', cap, cur, rfl, hB, hgb, rest⟩⟩
 ·cases e
 ·injection e with e
  have e' : g' = g := e
  subst e'
  exact ⟨cur, hgb⟩
theorem own_neV {w : World} {B : Nat} {E T : TypeId} {size : Nat} {v : Value} {n b : Nat} {xs : List Value} {cs : Array Value} (h : w.ownsRow B E size v n xs) (hb : Bl T b cs w) (hT : T ≠ E) : v.ownBlock ≠ some b := fun e => by
 obtain ⟨cur, hc⟩ := own_blkV h e
 have := hb.symm.trans hc
 injection this with this
 injection this with _ this
 exact hT this
theorem Bl.grownV {T : TypeId} {b : Nat} {cs : Array Value} {w w' : World} {o : Option Nat} (h : Bl T b cs w) (hg : w.grownBy w' o) (ne : o ≠ some b) : Bl T b cs w' := (hg.block b h.lt (fun e => ne e.symm)).trans h
section
variable {F : FaN} {A1 A2 O : Option Addr} {c1 c2 co : Nat} {fl fl' : Value} {b : CkB} {pm : Int → Option PkN} {pr : Int → Bool} {c : CkS} {W W' : World}
theorem CkAt.upB {B : Nat} (h : CkAt F A1 A2 O c1 c2 co fl b pm pr c W) (hb : Below B W W') (hB : ∀ k ∈ b.L, k < B) : CkAt F A1 A2 O c1 c2 co fl b pm pr c W' :=
 ⟨(hb.block b.cb (hB _ (by simp [CkB.L]))).trans h.own, h.nd, h.m.kept (fun k hk _ _ => hb.block k (hB k hk)) h.nd⟩
theorem CkAt.setF (h : CkAt F A1 A2 O c1 c2 co fl b pm pr c W) : CkAt F A1 A2 O c1 c2 co fl' b pm pr c (W.setCell ⟨b.cb, 9, none⟩ fl') :=
 ⟨h.own.set 9 _ rfl, h.nd, h.m.kept (fun k hk hne _ => Below.heap_setCell _ _ _ _ hne) h.nd⟩
end
section
variable {F : FaN} {A1 A2 O : Option Addr} {c1 c2 co g sm : Nat} {ok : Bool} {Ad : Option Addr} {dn : List Bool} {cd : Nat} {sn : Int → Option Int} {W W' : World}
theorem GdW.kpV {q : Nat} {es : Array MapEntry} {cl : Nat} (h : GdW F A1 A2 O c1 c2 co g sm ok Ad dn cd sn W) (hK : Kp [q] W W') (hm : W.heap[q]? = some (.map es cl)) (h2 : sm ≠ q) : GdW F A1 A2 O c1 c2 co g sm ok Ad dn cd sn W' :=
 ⟨h.gb.kpm hK hm, h.fm.kp hK (by simpa using h2), h.rd.kpm hK hm⟩
end
theorem pks_out {t : Topo} : ∀ (ps : List PkN) (ids : List Int), pksOk t ids ps = true → ∀ (k : Nat) (p : PkN), ps[k]? = some p → ¬ p.id ∈ ids ∧ (∀ q ∈ ps.take k, q.id ≠ p.id) ∧ isN t.n p.src = true ∧ isN t.n p.dst = true
 | [], _, _, k, p, h => by simp at h
 | q :: r, ids, h, k, p, hk => by
  rw [pksOk, Bool.and_eq_true] at h
  obtain ⟨h1, h2⟩ := h
  have hq := h1
  unfold pkOk at hq
  simp only [Bool.and_eq_true, Bool.not_eq_true'] at hq
  cases k with
  | zero =>
   simp only [List.getElem?_cons_zero, Option.some.injEq] at hk
   subst hk
   exact ⟨fun hm => by rw [List.contains_iff_mem.2 hm] at hq; exact absurd hq.1 (by simp), by simp, hq.2.2.1, hq.2.2.2⟩
  | succ k =>
   rw [List.getElem?_cons_succ] at hk
   obtain ⟨g1, g2, g3⟩ := pks_out r (ids ++ [q.id]) h2 k p hk
   refine ⟨fun hm => g1 (by simp [hm]), fun y hy => ?_, g3⟩
   rw [List.take_succ_cons] at hy
   rcases List.mem_cons.1 hy with rfl | hy
   ·exact fun e => g1 (by simp [e])
   ·exact g2 y hy
theorem pkOf_snoc {ps : List PkN} {k : Nat} {p : PkN} (hk : ps[k]? = some p) (hn : ∀ q ∈ ps.take k, q.id ≠ p.id) (x : Int) : pkOf (ps.take (k + 1)) x = if x = p.id then some p else pkOf (ps.take k) x := by
 unfold pkOf
 rw [List.take_add_one, hk, List.find?_append]
 by_cases e : x = p.id
 ·subst e
  have h0 : (ps.take k).find? (fun q => q.id == p.id) = none := by
   rw [List.find?_eq_none]
   intro q hq
   simpa using hn q hq
  simp [h0]
 ·rw [if_neg e]
  have e2 : (p.id == x) = false := by simp; exact fun h => e h.symm
  cases h : (ps.take k).find? (fun q => q.id == x) <;> simp [e2]
open Classical in
/-- Which packets are protected, by their ID. -/
noncomputable def protV (F : FaN) (tr : List Ev) (ps : List PkN) (id : Int) : Bool := match pkOf ps id with | some p => decide (protP F tr p) | none => false
open Classical in
theorem protV_snoc {F : FaN} {tr : List Ev} {ps : List PkN} {k : Nat} {p : PkN} (hk : ps[k]? = some p) (hn : ∀ q ∈ ps.take k, q.id ≠ p.id) (x : Int) : protV F tr (ps.take (k + 1)) x = if x = p.id then decide (protP F tr p) else protV F tr (ps.take k) x := by
 unfold protV
 rw [pkOf_snoc hk hn]
 by_cases e : x = p.id
 ·simp [e]
 ·simp [e]
open Classical in
theorem protV_ok {F : FaN} {tr : List Ev} {ps : List PkN} {id : Int} (h : protV F tr ps id = true) : okP F tr := by
 unfold protV at h
 split at h
 ·exact (of_decide_eq_true h).1
 ·cases h
theorem down_le (F : FaN) : (uQ F).length ≤ 2 * F.t.ls.length := by
 unfold uQ
 split
 ·rw [mask_length]; omega
 ·simp
def vioL (x : Int × Int) : List Value := [.int .i64 x.1, .int .i64 x.2]
/-- What Check returns. -/
def RetVy (F : FaN) (ps : List PkN) (tr : List Ev) (w : World) (e : Ending) (w' : World) : Prop :=
 Below w.heap.size w w' ∧ ((vyOk F ps tr = false ∧ e = .returned (.tuple #[.slice none 0 0, .int .i64 1])) ∨
  (vyOk F ps tr = true ∧ ∃ (A : Option Addr) (cp : Nat) (l : List (Int × Int)), l = runV F ps (protV F tr ps) (uQ F) (CkS.new F.t) 0 tr ∧ e = .returned (.tuple #[.slice A l.length cp, .int .i64 0]) ∧ Rd w' A (l.flatMap vioL)))
theorem hits_le (f : FaN) (ps : List PkN) (prot : Int → Bool) (fail : List Bool) (c : CkS) (e : Ev) (i : Nat) : ∀ k, (eZ f ps prot fail c e i k).length ≤ k
 | 0 => Nat.le_refl 0
 | k + 1 => by
  have := hits_le f ps prot fail c e i k
  rw [eZ, List.length_append]
  split <;> simp <;> omega
/-- The violations found so far, behind the first n events. -/
def runN (f : FaN) (ps : List PkN) (prot : Int → Bool) (fail : List Bool) (tr : List Ev) (n : Nat) : List (Int × Int) := (List.range n).flatMap fun i => eZ f ps prot fail (ckR f.t (tr.take i)) (tr.getD i ⟨0, 0, 0, 0, 0, 0⟩) i 11
theorem runN_snoc (f : FaN) (ps : List PkN) (prot : Int → Bool) (fail : List Bool) (tr : List Ev) {n : Nat} {e : Ev} (h : tr[n]? = some e) : runN f ps prot fail tr (n + 1) = runN f ps prot fail tr n ++ eZ f ps prot fail (ckR f.t (tr.take n)) e n 11 := by
 unfold runN
 rw [List.range_succ, List.flatMap_append, List.flatMap_singleton, List.getD_eq_getElem?_getD, h]
 rfl
theorem runN_le (f : FaN) (ps : List PkN) (prot : Int → Bool) (fail : List Bool) (tr : List Ev) : ∀ n, n ≤ tr.length → (runN f ps prot fail tr n).length ≤ 11 * n
 | 0, _ => Nat.le_refl 0
 | n + 1, h => by
  have := runN_le f ps prot fail tr n (by omega)
  rw [runN_snoc f ps prot fail tr (List.getElem?_eq_getElem (show n < tr.length by omega)), List.length_append]
  have := hits_le f ps prot fail (ckR f.t (tr.take n)) (tr[n]'(by omega)) n 11
  omega
theorem runN_runV (f : FaN) (ps : List PkN) (prot : Int → Bool) (fail : List Bool) (tr : List Ev) : ∀ (r : List Ev) (n : Nat), tr.drop n = r → n ≤ tr.length → runN f ps prot fail tr tr.length = runN f ps prot fail tr n ++ runV f ps prot fail (ckR f.t (tr.take n)) n r
 | [], n, h, hn => by
  have hl : tr.length = n := by have := List.drop_eq_nil_iff.1 h; omega
  rw [runV, List.append_nil, ← hl]
 | e :: r, n, h, hn => by
  have hlt : n < tr.length := by
   rcases Nat.lt_or_ge n tr.length with h1 | h1
   ·exact h1
   ·rw [List.drop_eq_nil_of_le h1] at h; cases h
  have he : tr[n]? = some e := by
   have : (tr.drop n)[0]? = some e := by rw [h]; rfl
   simpa using this
  have hd : tr.drop (n + 1) = r := by rw [← List.drop_drop, h]; rfl
  rw [runN_runV f ps prot fail tr r (n + 1) hd (by omega), runN_snoc f ps prot fail tr he, runV, List.append_assoc]
  congr 2
  rw [List.take_add_one, he]
  show runV f ps prot fail (ckR f.t (tr.take n ++ [e])) _ _ = _
  rw [ckR_snoc]
theorem runN_all (f : FaN) (ps : List PkN) (prot : Int → Bool) (fail : List Bool) (tr : List Ev) : runN f ps prot fail tr tr.length = runV f ps prot fail (CkS.new f.t) 0 tr := by
 have := runN_runV f ps prot fail tr tr 0 rfl (Nat.zero_le _)
 rw [this]
 rfl
end
end Go.Proofs.YtdnjflpmbnjgeaaGreat
