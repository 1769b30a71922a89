/-
  The rules of the check: unknown, end, origin (printed by gen_ru8.py).
-/
import Derived.Test.YtdnjflpmbnjgeaaGreatPkRu0
set_option linter.unusedSimpArgs false
set_option linter.unusedVariables false
namespace Go.Proofs.YtdnjflpmbnjgeaaGreat
section
open Go.RowKit Go.Sort
def pk0 : PkN := ⟨0, 0, 0, 0, none, 0, 0, 0⟩
theorem zero_pk (w : World) : (zeroValue 49).run Tryz.prog w = .ok (encP pk0) w := by kernel_rfl
section
variable {w : World} {F : FaN} {A1 A2 O : Option Addr} {c1 c2 co : Nat} {fl : Value} {b : CkB} {pm : Int → Option PkN} {pr : Int → Bool} {c : CkS}
theorem CkAt.lookP (h : CkAt F A1 A2 O c1 c2 co fl b pm pr c w) (p : Int) (hJ : inJ p) : (Instr.lookup 61 (.map (some b.pk)) (.int .i64 p) true).run Tryz.prog w = .ok (.tuple #[encP ((pm p).getD pk0), .bool (pm p).isSome]) w := by
 have := h.m.pk.look key_int Tryz.underlying61 (zero_pk _) p (keyJ hJ) (enc1_inj p) true
 rw [if_pos rfl] at this
 refine this.trans ?_
 cases pm p <;> rfl
/-- Facts for the region that looks a packet up. -/
def LkS (b : CkB) (eb : Nat) (p : Int) (q : Value) (ok : Bool) (X : World) : Prop := X.cell? ⟨b.cb, 7, none⟩ = some (.map (some b.pk)) ∧ X.cell? ⟨eb, 4, none⟩ = some (.int .i64 p) ∧ (Instr.lookup 61 (.map (some b.pk)) (.int .i64 p) true).run Tryz.prog X = .ok (.tuple #[q, .bool ok]) X
theorem LkS.mk' {eb : Nat} {x kd n ar p r : Int} {X Y : World} (h : CkAt F A1 A2 O c1 c2 co fl b pm pr c X) (he : Bl 43 eb #[.int .i64 x, .int .i64 kd, .int .i64 n, .int .i64 ar, .int .i64 p, .int .i64 r] X) (hJ : inJ p) (hb : Below X.heap.size X Y) : LkS b eb p (encP ((pm p).getD pk0)) (pm p).isSome Y :=
 ⟨(h.up hb).q7, (he.up hb).cell 4 rfl, (h.up hb).lookP p hJ⟩
set_option maxRecDepth 100000 in
set_option maxHeartbeats 8000000 in
theorem ru_unknown (c : CkS) (x kd n ar p r : Int) (hC : CkAt F A1 A2 O c1 c2 co fl b pm pr c w) (hJ : inJ p ∧ inJ n) :
    Calls Tryz.prog 17 #[.pointer (some ⟨b.cb, 0, none⟩), .agg #[.int .i64 x, .int .i64 kd, .int .i64 n, .int .i64 ar, .int .i64 p, .int .i64 r]] w (RetRu w (ofPkB ⟨x, kd, n, ar, p, r⟩ && !(pm p).isSome)) := by
 obtain ⟨R, hR⟩ : ∃ R : Bool, R = (ofPkB ⟨x, kd, n, ar, p, r⟩ && !(pm p).isSome) := ⟨_, rfl⟩
 rw [← hR]
 have HR := hU hR
 clear hR
 have HB := hU (cQ w (.cells #[.int .i64 x, .int .i64 kd, .int .i64 n, .int .i64 ar, .int .i64 p, .int .i64 r] 43))
 have HE := hU (Bl.new w #[.int .i64 x, .int .i64 kd, .int .i64 n, .int .i64 ar, .int .i64 p, .int .i64 r] 43)
 have HC := hU (hC.up HB.out)
 have HJ := hU hJ
 obtain ⟨X, hX⟩ : ∃ X, X = w.alloc (.cells #[.int .i64 x, .int .i64 kd, .int .i64 n, .int .i64 ar, .int .i64 p, .int .i64 r] 43) := ⟨_, rfl⟩
 rw [← hX] at HB HE HC
 obtain ⟨q, hq⟩ : ∃ q, q = (pm p).getD pk0 := ⟨_, rfl⟩
 obtain ⟨ok, hok⟩ : ∃ ok, ok = (pm p).isSome := ⟨_, rfl⟩
 have HLK : Hid (∀ Y, Below X.heap.size X Y → LkS b w.heap.size p (encP q) ok Y) := hU (fun Y hb => by rw [hq, hok]; exact LkS.mk' HC.out HE.out HJ.out.1 hb)
 have HOK := hU hok
 have HPM : Hid (pm p = if ok = true then some q else none) := hU (by rw [hok, hq]; cases pm p <;> rfl)
 unfold encP at HLK
 have HXS : Hid (w.heap.size < X.heap.size) := hU (by rw [hX]; simp)
 obtain ⟨e0, e1, e2, e3, e4, e5, _⟩ := HE.out.c6
 clear hC hJ hq hok
 go_enter Tryz.func17, Tryz.ntmps17
 go_upto_region 1 with fail
 rw [← hX]
 clear hX
 refine wp_region_held_drew (S := (fun X => X.cell? ⟨b.cb, 7, none⟩ = some (.map (some b.pk)) ∧ X.cell? ⟨w.heap.size, 4, none⟩ = some (.int .i64 p) ∧ (Instr.lookup 61 (.map (some b.pk)) (.int .i64 p) true).run Tryz.prog X = .ok (.tuple #[(.agg #[.int .i64 q.id, .int .i64 q.src, .int .i64 q.dst, .int .i64 q.fl, .slice q.st q.sn q.sc, .int .i64 q.hops]), .bool ok]) X)) (by kernel_rfl) ?_ (fun hHeld => ?_)
 ·(refine HLK.out _ ?_; (repeat' (first | (with_reducible exact (Below.refl _ _)) | (with_reducible refine Bset ?_ ?_) | (with_reducible refine Bdrw ?_) | (with_reducible refine Bbox ?_ ?_) | omega | (simp; done) | (simp; omega))))
 refine tk 0 ?_
 (try simp only [Act.put, sA, sB, sC])
 refine tk 1 ?_
 (try simp only [Act.put, sA, sB, sC])
 refine tk 2 ?_
 (try simp only [Act.put, sA, sB, sC])
 refine tk 3 ?_
 (try simp only [Act.put, sA, sB, sC])
 refine tk 4 ?_
 (try simp only [Act.put, sA, sB, sC])
 refine tk 5 ?_
 (try simp only [Act.put, sA, sB, sC])
 refine tk 6 ?_
 (try simp only [Act.put, sA, sB, sC])
 refine tk 7 ?_
 (try simp only [Act.put, sA, sB, sC])
 refine tk 8 ?_
 (try simp only [Act.put, sA, sB, sC])
 refine tk 9 ?_
 (try simp only [Act.put, sA, sB, sC])
 refine wpAnyH_ready (rs := [10]) (by decide +kernel) (by simp) ?_
 refine consL rfl (fun K hK => ?_) ?_
 ·(first | fail | (go_simp; first | done | (first | fail)) | go_simp)
  (first | (with_reducible refine hK.out _ _ ?_ ?_) | (go_wp2_with fail; refine hK.out _ _ ?_ ?_))
  (focus ((refine HLK.out _ ?_; (repeat' (first | (with_reducible exact (Below.refl _ _)) | (with_reducible refine Bset ?_ ?_) | (with_reducible refine Bdrw ?_) | (with_reducible refine Bbox ?_ ?_) | omega | (simp; done) | (simp; omega))))))
  clear hK K hHeld
  intro hHeld
  (try simp only [Act.put, sA, sB, sC])
  refine wpAnyH_ready (rs := [11]) (by decide +kernel) (by simp) ?_
  refine consL rfl (fun K hK => ?_) ?_
  ·(first | fail | (go_simp; first | done | (first | fail)) | go_simp)
   (first | (with_reducible refine hK.out _ _ ?_ ?_) | (go_wp2_with fail; refine hK.out _ _ ?_ ?_))
   (focus ((refine HLK.out _ ?_; (repeat' (first | (with_reducible exact (Below.refl _ _)) | (with_reducible refine Bset ?_ ?_) | (with_reducible refine Bdrw ?_) | (with_reducible refine Bbox ?_ ?_) | omega | (simp; done) | (simp; omega))))))
   clear hK K hHeld
   intro hHeld
   (try simp only [Act.put, sA, sB, sC])
   refine tk 12 ?_
   (try simp only [Act.put, sA, sB, sC])
   refine wpAnyH_done (by decide +kernel) ?_ _
   go_upto_region 2 with fail
   have hz : Below X.heap.size X (X.alloc (.cells #[.int .i64 q.id, .int .i64 q.src, .int .i64 q.dst, .int .i64 q.fl, .slice q.st q.sn q.sc, .int .i64 q.hops] 49)).drew := Bdrw (cQ _ _)
   obtain ⟨nb, hnb⟩ : ∃ nb, nb = X.heap.size := ⟨_, rfl⟩
   refine kQ (fun Y => Below w.heap.size w Y ∧ CkAt F A1 A2 O c1 c2 co fl b pm pr c Y ∧ Bl 43 w.heap.size #[.int .i64 x, .int .i64 kd, .int .i64 n, .int .i64 ar, .int .i64 p, .int .i64 r] Y ∧ Bl 49 nb #[.int .i64 q.id, .int .i64 q.src, .int .i64 q.dst, .int .i64 q.fl, .slice q.st q.sn q.sc, .int .i64 q.hops] Y) ⟨bQ HB.out hz, HC.out.up hz, HE.out.up hz, by rw [hnb]; exact (Bl.new X _ _).up (Bdrw (Below.refl _ _))⟩ ?_
   rw [← hnb]
   clear hz hnb HB HC HE HLK HXS e0 e1 e2 e3 e4 e5 hHeld
   rintro Y ⟨h1, h2, h3, h4⟩
   have HB := hU h1
   have HC := hU h2
   have HE := hU h3
   have HQ := hU h4
   clear h1 h2 h3 h4
   obtain ⟨e0, e1, e2, e3, e4, e5, _⟩ := HE.out.c6
   obtain ⟨p0, p1, p2, p3, p4, p5, _⟩ := HQ.out.c6
   obtain ⟨v, hv⟩ : ∃ v, v = ofPkB ⟨x, kd, n, ar, p, r⟩ := ⟨_, rfl⟩
   have HV := hU hv
   clear hv
   cases v <;> cases ok <;>
   (go_wp2_with (go_at_call 53; (with_reducible refine (vy_ofPacket _ _ _ _ _ _).mono ?_); rw [← HV.out]; rintro e w3 ⟨rfl, hb3⟩; replace HB := hU (bQ HB.out hb3))
    go_ret
    exact ⟨by rw [HR.out, ← HV.out, ← HOK.out]; rfl, HB.out⟩)
  exact AllReadyH.nil
 exact AllReadyH.nil
set_option maxRecDepth 100000 in
set_option maxHeartbeats 8000000 in
theorem ru_end (c : CkS) (x kd n ar p r : Int) (hC : CkAt F A1 A2 O c1 c2 co fl b pm pr c w) (hJ : inJ p ∧ inJ n) :
    Calls Tryz.prog 20 #[.pointer (some ⟨b.cb, 0, none⟩), .agg #[.int .i64 x, .int .i64 kd, .int .i64 n, .int .i64 ar, .int .i64 p, .int .i64 r]] w (RetRu w (match pm p with | none => false | some q => (kd == 3) && !(n == q.dst))) := by
 obtain ⟨R, hR⟩ : ∃ R : Bool, R = (match pm p with | none => false | some q => (kd == 3) && !(n == q.dst)) := ⟨_, rfl⟩
 rw [← hR]
 have HR := hU hR
 clear hR
 have HB := hU (cQ w (.cells #[.int .i64 x, .int .i64 kd, .int .i64 n, .int .i64 ar, .int .i64 p, .int .i64 r] 43))
 have HE := hU (Bl.new w #[.int .i64 x, .int .i64 kd, .int .i64 n, .int .i64 ar, .int .i64 p, .int .i64 r] 43)
 have HC := hU (hC.up HB.out)
 have HJ := hU hJ
 obtain ⟨X, hX⟩ : ∃ X, X = w.alloc (.cells #[.int .i64 x, .int .i64 kd, .int .i64 n, .int .i64 ar, .int .i64 p, .int .i64 r] 43) := ⟨_, rfl⟩
 rw [← hX] at HB HE HC
 obtain ⟨q, hq⟩ : ∃ q, q = (pm p).getD pk0 := ⟨_, rfl⟩
 obtain ⟨ok, hok⟩ : ∃ ok, ok = (pm p).isSome := ⟨_, rfl⟩
 have HLK : Hid (∀ Y, Below X.heap.size X Y → LkS b w.heap.size p (encP q) ok Y) := hU (fun Y hb => by rw [hq, hok]; exact LkS.mk' HC.out HE.out HJ.out.1 hb)
 have HOK := hU hok
 have HPM : Hid (pm p = if ok = true then some q else none) := hU (by rw [hok, hq]; cases pm p <;> rfl)
 unfold encP at HLK
 have HXS : Hid (w.heap.size < X.heap.size) := hU (by rw [hX]; simp)
 obtain ⟨e0, e1, e2, e3, e4, e5, _⟩ := HE.out.c6
 clear hC hJ hq hok
 go_enter Tryz.func20, Tryz.ntmps20
 go_upto_region 1 with fail
 rw [← hX]
 clear hX
 refine wp_region_held_drew (S := (fun X => X.cell? ⟨b.cb, 7, none⟩ = some (.map (some b.pk)) ∧ X.cell? ⟨w.heap.size, 4, none⟩ = some (.int .i64 p) ∧ (Instr.lookup 61 (.map (some b.pk)) (.int .i64 p) true).run Tryz.prog X = .ok (.tuple #[(.agg #[.int .i64 q.id, .int .i64 q.src, .int .i64 q.dst, .int .i64 q.fl, .slice q.st q.sn q.sc, .int .i64 q.hops]), .bool ok]) X)) (by kernel_rfl) ?_ (fun hHeld => ?_)
 ·(refine HLK.out _ ?_; (repeat' (first | (with_reducible exact (Below.refl _ _)) | (with_reducible refine Bset ?_ ?_) | (with_reducible refine Bdrw ?_) | (with_reducible refine Bbox ?_ ?_) | omega | (simp; done) | (simp; omega))))
 refine tk 0 ?_
 (try simp only [Act.put, sA, sB, sC])
 refine tk 1 ?_
 (try simp only [Act.put, sA, sB, sC])
 refine tk 2 ?_
 (try simp only [Act.put, sA, sB, sC])
 refine tk 3 ?_
 (try simp only [Act.put, sA, sB, sC])
 refine tk 4 ?_
 (try simp only [Act.put, sA, sB, sC])
 refine tk 5 ?_
 (try simp only [Act.put, sA, sB, sC])
 refine tk 6 ?_
 (try simp only [Act.put, sA, sB, sC])
 refine tk 7 ?_
 (try simp only [Act.put, sA, sB, sC])
 refine tk 8 ?_
 (try simp only [Act.put, sA, sB, sC])
 refine tk 9 ?_
 (try simp only [Act.put, sA, sB, sC])
 refine wpAnyH_ready (rs := [10]) (by decide +kernel) (by simp) ?_
 refine consL rfl (fun K hK => ?_) ?_
 ·(first | fail | (go_simp; first | done | (first | fail)) | go_simp)
  (first | (with_reducible refine hK.out _ _ ?_ ?_) | (go_wp2_with fail; refine hK.out _ _ ?_ ?_))
  (focus ((refine HLK.out _ ?_; (repeat' (first | (with_reducible exact (Below.refl _ _)) | (with_reducible refine Bset ?_ ?_) | (with_reducible refine Bdrw ?_) | (with_reducible refine Bbox ?_ ?_) | omega | (simp; done) | (simp; omega))))))
  clear hK K hHeld
  intro hHeld
  (try simp only [Act.put, sA, sB, sC])
  refine wpAnyH_ready (rs := [11]) (by decide +kernel) (by simp) ?_
  refine consL rfl (fun K hK => ?_) ?_
  ·(first | fail | (go_simp; first | done | (first | fail)) | go_simp)
   (first | (with_reducible refine hK.out _ _ ?_ ?_) | (go_wp2_with fail; refine hK.out _ _ ?_ ?_))
   (focus ((refine HLK.out _ ?_; (repeat' (first | (with_reducible exact (Below.refl _ _)) | (with_reducible refine Bset ?_ ?_) | (with_reducible refine Bdrw ?_) | (with_reducible refine Bbox ?_ ?_) | omega | (simp; done) | (simp; omega))))))
   clear hK K hHeld
   intro hHeld
   (try simp only [Act.put, sA, sB, sC])
   refine tk 12 ?_
   (try simp only [Act.put, sA, sB, sC])
   refine wpAnyH_done (by decide +kernel) ?_ _
   go_upto_region 2 with fail
   have hz : Below X.heap.size X (X.alloc (.cells #[.int .i64 q.id, .int .i64 q.src, .int .i64 q.dst, .int .i64 q.fl, .slice q.st q.sn q.sc, .int .i64 q.hops] 49)).drew := Bdrw (cQ _ _)
   obtain ⟨nb, hnb⟩ : ∃ nb, nb = X.heap.size := ⟨_, rfl⟩
   refine kQ (fun Y => Below w.heap.size w Y ∧ CkAt F A1 A2 O c1 c2 co fl b pm pr c Y ∧ Bl 43 w.heap.size #[.int .i64 x, .int .i64 kd, .int .i64 n, .int .i64 ar, .int .i64 p, .int .i64 r] Y ∧ Bl 49 nb #[.int .i64 q.id, .int .i64 q.src, .int .i64 q.dst, .int .i64 q.fl, .slice q.st q.sn q.sc, .int .i64 q.hops] Y) ⟨bQ HB.out hz, HC.out.up hz, HE.out.up hz, by rw [hnb]; exact (Bl.new X _ _).up (Bdrw (Below.refl _ _))⟩ ?_
   rw [← hnb]
   clear hz hnb HB HC HE HLK HXS e0 e1 e2 e3 e4 e5 hHeld
   rintro Y ⟨h1, h2, h3, h4⟩
   have HB := hU h1
   have HC := hU h2
   have HE := hU h3
   have HQ := hU h4
   clear h1 h2 h3 h4
   obtain ⟨e0, e1, e2, e3, e4, e5, _⟩ := HE.out.c6
   obtain ⟨p0, p1, p2, p3, p4, p5, _⟩ := HQ.out.c6
   by_cases hk : kd = 3
   ·have hkb : (kd == 3) = true := by simp [hk]
    obtain ⟨v, hv⟩ : ∃ v, v = (n != q.dst) := ⟨_, rfl⟩
    have HV : Hid ((!(n == q.dst)) = v) := hU (by rw [hv]; rfl)
    replace hv := hv.symm
    have HR2 : Hid (R = (ok && v)) := hU (by rw [HR.out, HPM.out]; cases ok <;> simp [hkb, HV.out])
    clear hk HV
    cases v <;> cases ok <;>
    (go_wp2_with fail
     go_ret
     exact ⟨by rw [HR2.out]; rfl, HB.out⟩)
   ·have hkb : (kd == 3) = false := by simp [hk]
    have HR2 : Hid (R = false) := hU (by rw [HR.out, HPM.out]; cases ok <;> simp [hkb])
    clear hk
    cases ok <;>
    (go_wp2_with fail
     go_ret
     exact ⟨by rw [HR2.out]; rfl, HB.out⟩)
  exact AllReadyH.nil
 exact AllReadyH.nil
theorem lk_ar (h : CkAt F A1 A2 O c1 c2 co fl b pm pr c w) (p n : Int) (h0 : inJ p) (h1 : inJ n) : (Instr.lookup 65 (.map (some b.ar)) (.agg #[.int .i64 p, .int .i64 n]) true).run Tryz.prog w = .ok (.tuple #[.int .i64 ((c.ar p n).getD 0), .bool (c.ar p n).isSome]) w := by
 have := h.m.ar.look key_spot Tryz.underlying65 (zero_intV _) (p, n) (keyOf_spot (p, n) h0 h1) (enc2_inj (p, n)) true
 rw [if_pos rfl] at this
 refine this.trans ?_
 cases c.ar p n <;> rfl
/-- The rule origin in plain Lean, on a packet that is known. -/
def origP (q : PkN) (c : CkS) (e : Ev) : Bool :=
 if e.k = 1 then !(e.n == q.src) || c.sn e.p
 else if handB e = false ∨ c.sa e.p e.n e.t = true then false
 else match c.ar e.p e.n with
  | none => true
  | some l => decide (e.t < l)
set_option maxRecDepth 100000 in
set_option maxHeartbeats 8000000 in
theorem ru_origin (c : CkS) (x kd n ar p r : Int) (hC : CkAt F A1 A2 O c1 c2 co fl b pm pr c w) (hJ : inJ p ∧ inJ n ∧ inJ x) :
    Calls Tryz.prog 18 #[.pointer (some ⟨b.cb, 0, none⟩), .agg #[.int .i64 x, .int .i64 kd, .int .i64 n, .int .i64 ar, .int .i64 p, .int .i64 r]] w (RetRu w (match pm p with | none => false | some q => origP q c ⟨x, kd, n, ar, p, r⟩)) := by
 obtain ⟨R, hR⟩ : ∃ R : Bool, R = (match pm p with | none => false | some q => origP q c ⟨x, kd, n, ar, p, r⟩) := ⟨_, rfl⟩
 rw [← hR]
 have HR := hU hR
 clear hR
 have HB := hU (cQ w (.cells #[.int .i64 x, .int .i64 kd, .int .i64 n, .int .i64 ar, .int .i64 p, .int .i64 r] 43))
 have HE := hU (Bl.new w #[.int .i64 x, .int .i64 kd, .int .i64 n, .int .i64 ar, .int .i64 p, .int .i64 r] 43)
 have HC := hU (hC.up HB.out)
 have HJ := hU hJ
 obtain ⟨X, hX⟩ : ∃ X, X = w.alloc (.cells #[.int .i64 x, .int .i64 kd, .int .i64 n, .int .i64 ar, .int .i64 p, .int .i64 r] 43) := ⟨_, rfl⟩
 rw [← hX] at HB HE HC
 obtain ⟨q, hq⟩ : ∃ q, q = (pm p).getD pk0 := ⟨_, rfl⟩
 obtain ⟨ok, hok⟩ : ∃ ok, ok = (pm p).isSome := ⟨_, rfl⟩
 have HLK : Hid (∀ Y, Below X.heap.size X Y → LkS b w.heap.size p (encP q) ok Y) := hU (fun Y hb => by rw [hq, hok]; exact LkS.mk' HC.out HE.out HJ.out.1 hb)
 have HOK := hU hok
 have HPM : Hid (pm p = if ok = true then some q else none) := hU (by rw [hok, hq]; cases pm p <;> rfl)
 unfold encP at HLK
 have HXS : Hid (w.heap.size < X.heap.size) := hU (by rw [hX]; simp)
 obtain ⟨e0, e1, e2, e3, e4, e5, _⟩ := HE.out.c6
 clear hC hJ hq hok
 go_enter Tryz.func18, Tryz.ntmps18
 go_upto_region 1 with fail
 rw [← hX]
 clear hX
 refine wp_region_held_drew (S := (fun X => X.cell? ⟨b.cb, 7, none⟩ = some (.map (some b.pk)) ∧ X.cell? ⟨w.heap.size, 4, none⟩ = some (.int .i64 p) ∧ (Instr.lookup 61 (.map (some b.pk)) (.int .i64 p) true).run Tryz.prog X = .ok (.tuple #[(.agg #[.int .i64 q.id, .int .i64 q.src, .int .i64 q.dst, .int .i64 q.fl, .slice q.st q.sn q.sc, .int .i64 q.hops]), .bool ok]) X)) (by kernel_rfl) ?_ (fun hHeld => ?_)
 ·(refine HLK.out _ ?_; (repeat' (first | (with_reducible exact (Below.refl _ _)) | (with_reducible refine Bset ?_ ?_) | (with_reducible refine Bdrw ?_) | (with_reducible refine Bbox ?_ ?_) | omega | (simp; done) | (simp; omega))))
 refine tk 0 ?_
 (try simp only [Act.put, sA, sB, sC])
 refine tk 1 ?_
 (try simp only [Act.put, sA, sB, sC])
 refine tk 2 ?_
 (try simp only [Act.put, sA, sB, sC])
 refine tk 3 ?_
 (try simp only [Act.put, sA, sB, sC])
 refine tk 4 ?_
 (try simp only [Act.put, sA, sB, sC])
 refine tk 5 ?_
 (try simp only [Act.put, sA, sB, sC])
 refine tk 6 ?_
 (try simp only [Act.put, sA, sB, sC])
 refine tk 7 ?_
 (try simp only [Act.put, sA, sB, sC])
 refine tk 8 ?_
 (try simp only [Act.put, sA, sB, sC])
 refine tk 9 ?_
 (try simp only [Act.put, sA, sB, sC])
 refine wpAnyH_ready (rs := [10]) (by decide +kernel) (by simp) ?_
 refine consL rfl (fun K hK => ?_) ?_
 ·(first | fail | (go_simp; first | done | (first | fail)) | go_simp)
  (first | (with_reducible refine hK.out _ _ ?_ ?_) | (go_wp2_with fail; refine hK.out _ _ ?_ ?_))
  (focus ((refine HLK.out _ ?_; (repeat' (first | (with_reducible exact (Below.refl _ _)) | (with_reducible refine Bset ?_ ?_) | (with_reducible refine Bdrw ?_) | (with_reducible refine Bbox ?_ ?_) | omega | (simp; done) | (simp; omega))))))
  clear hK K hHeld
  intro hHeld
  (try simp only [Act.put, sA, sB, sC])
  refine wpAnyH_ready (rs := [11]) (by decide +kernel) (by simp) ?_
  refine consL rfl (fun K hK => ?_) ?_
  ·(first | fail | (go_simp; first | done | (first | fail)) | go_simp)
   (first | (with_reducible refine hK.out _ _ ?_ ?_) | (go_wp2_with fail; refine hK.out _ _ ?_ ?_))
   (focus ((refine HLK.out _ ?_; (repeat' (first | (with_reducible exact (Below.refl _ _)) | (with_reducible refine Bset ?_ ?_) | (with_reducible refine Bdrw ?_) | (with_reducible refine Bbox ?_ ?_) | omega | (simp; done) | (simp; omega))))))
   clear hK K hHeld
   intro hHeld
   (try simp only [Act.put, sA, sB, sC])
   refine tk 12 ?_
   (try simp only [Act.put, sA, sB, sC])
   refine wpAnyH_done (by decide +kernel) ?_ _
   go_upto_region 2 with fail
   have hz : Below X.heap.size X (X.alloc (.cells #[.int .i64 q.id, .int .i64 q.src, .int .i64 q.dst, .int .i64 q.fl, .slice q.st q.sn q.sc, .int .i64 q.hops] 49)).drew := Bdrw (cQ _ _)
   obtain ⟨nb, hnb⟩ : ∃ nb, nb = X.heap.size := ⟨_, rfl⟩
   refine kQ (fun Y => Below w.heap.size w Y ∧ CkAt F A1 A2 O c1 c2 co fl b pm pr c Y ∧ Bl 43 w.heap.size #[.int .i64 x, .int .i64 kd, .int .i64 n, .int .i64 ar, .int .i64 p, .int .i64 r] Y ∧ Bl 49 nb #[.int .i64 q.id, .int .i64 q.src, .int .i64 q.dst, .int .i64 q.fl, .slice q.st q.sn q.sc, .int .i64 q.hops] Y) ⟨bQ HB.out hz, HC.out.up hz, HE.out.up hz, by rw [hnb]; exact (Bl.new X _ _).up (Bdrw (Below.refl _ _))⟩ ?_
   rw [← hnb]
   clear hz hnb HB HC HE HLK HXS e0 e1 e2 e3 e4 e5 hHeld
   rintro Y ⟨h1, h2, h3, h4⟩
   have HB := hU h1
   have HC := hU h2
   have HE := hU h3
   have HQ := hU h4
   clear h1 h2 h3 h4
   obtain ⟨e0, e1, e2, e3, e4, e5, _⟩ := HE.out.c6
   obtain ⟨p0, p1, p2, p3, p4, p5, _⟩ := HQ.out.c6
   cases ok with
   | false =>
    have HR2 : Hid (R = false) := hU (by rw [HR.out, HPM.out]; rfl)
    go_wp2_with fail
    go_ret
    exact ⟨by rw [HR2.out]; rfl, HB.out⟩
   | true =>
    have HR2 : Hid (R = origP q c ⟨x, kd, n, ar, p, r⟩) := hU (by rw [HR.out, HPM.out]; rfl)
    clear HR HPM HOK
    by_cases hk : kd = 1
    ·have hkb : (kd == 1) = true := by simp [hk]
     have HR3 : Hid (R = (!(n == q.src) || c.sn p)) := hU (by rw [HR2.out]; simp [origP, hk])
     clear hk HR2
     go_upto_region 5 with fail
     have q15 := HC.out.q15
     have l1 : ∀ d os, (Instr.lookup 62 (.map (some b.sn)) (.int .i64 p) false).run Tryz.prog (grow (redrawn Y d) os) = .ok (.bool (c.sn p)) (grow (redrawn Y d) os) := fun d os => (HC.out.up (below_regrown _ d os)).m.sn.look key_int Tryz.underlying62 (zero_boolV _) p (keyJ HJ.out.1) (enc1_inj p)
     obtain ⟨v, hv⟩ : ∃ v, v = c.sn p := ⟨_, rfl⟩
     rw [← hv] at l1
     have HV := hU hv
     clear hv
     by_cases g : n = q.src
     ·have g1 : (n != q.src) = false := by simp [g]
      have g2 : (n == q.src) = true := by simp [g]
      have HR4 : Hid (R = v) := hU (by rw [HR3.out, g2, ← HV.out]; rfl)
      clear g g2
      obtain ⟨P1, P2, P3, P4, P5, P6, P7, P8, -⟩ := kU e0 (kU e1 (kU e2 (kU e3 (kU e4 (kU e5 (kU q15 (kU p1 trivial)))))))
      refine wp_region_quiet_below (by kernel_rfl) (by kernel_rfl) ?_
      repeat (go_big_quiet_step ((fail)))
      refine wpQuiet_nil ?_
      intro W3 hb3
      replace hb3 := eQ hb3
      clear P1 P2 P3 P4 P5 P6 P7 P8
      have zU := uU hb3 e0 (uU hb3 e1 (uU hb3 e2 (uU hb3 e3 (uU hb3 e4 (uU hb3 e5 (uU hb3 q15 (uU hb3 p1 trivial))))))); clear e0 e1 e2 e3 e4 e5 q15 p1; obtain ⟨e0, e1, e2, e3, e4, e5, q15, p1, -⟩ := zU
      replace HB := hU (bQ HB.out hb3)
      clear l1
      go_wp2_with fail
      go_ret
      exact ⟨by rw [HR4.out]; rfl, HB.out⟩
     ·have g1 : (n != q.src) = true := by simp [g]
      have g2 : (n == q.src) = false := by simp [g]
      have HR4 : Hid (R = true) := hU (by rw [HR3.out, g2]; rfl)
      clear g g2
      obtain ⟨P1, P2, P3, P4, P5, P6, P7, P8, -⟩ := kU e0 (kU e1 (kU e2 (kU e3 (kU e4 (kU e5 (kU q15 (kU p1 trivial)))))))
      refine wp_region_quiet_below (by kernel_rfl) (by kernel_rfl) ?_
      repeat (go_big_quiet_step ((fail)))
      refine wpQuiet_nil ?_
      intro W3 hb3
      replace hb3 := eQ hb3
      clear P1 P2 P3 P4 P5 P6 P7 P8
      have zU := uU hb3 e0 (uU hb3 e1 (uU hb3 e2 (uU hb3 e3 (uU hb3 e4 (uU hb3 e5 (uU hb3 q15 (uU hb3 p1 trivial))))))); clear e0 e1 e2 e3 e4 e5 q15 p1; obtain ⟨e0, e1, e2, e3, e4, e5, q15, p1, -⟩ := zU
      replace HB := hU (bQ HB.out hb3)
      clear l1
      go_wp2_with fail
      go_ret
      exact ⟨by rw [HR4.out]; rfl, HB.out⟩
    ·have hkb : (kd == 1) = false := by simp [hk]
     have HR3 : Hid (R = if handB ⟨x, kd, n, ar, p, r⟩ = false ∨ c.sa p n x = true then false else match c.ar p n with | none => true | some l => decide (x < l)) := hU (by rw [HR2.out]; simp [origP, hk])
     clear hk HR2
     go_upto_region 6 with fail
     have q16 := HC.out.q16
     have l1 : ∀ d os, (Instr.lookup 64 (.map (some b.sa)) (.agg #[.int .i64 p, .int .i64 n, .int .i64 x]) false).run Tryz.prog (grow (redrawn Y d) os) = .ok (.bool (c.sa p n x)) (grow (redrawn Y d) os) := fun d os => (HC.out.up (below_regrown _ d os)).m.sa.look key_visit Tryz.underlying64 (zero_boolV _) (p, n, x) (keyOf_visit (p, n, x) HJ.out.1 HJ.out.2.1 HJ.out.2.2) (enc3_inj (p, n, x))
     obtain ⟨v, hv⟩ : ∃ v, v = c.sa p n x := ⟨_, rfl⟩
     rw [← hv] at l1
     have HV := hU hv
     clear hv
     cases hh : handB ⟨x, kd, n, ar, p, r⟩ with
     | false =>
      have HH : Hid (∀ d os, Calls Tryz.prog 54 #[.agg #[.int .i64 x, .int .i64 kd, .int .i64 n, .int .i64 ar, .int .i64 p, .int .i64 r]] (grow (redrawn Y d) os) fun e w'' => e = .returned (.bool false) ∧ ∃ p : Regrown, w'' = grow (redrawn Y p.d) p.os) := hU fun d os => Calls.regrown_of (by have := vy_handling (w := grow (redrawn Y d) os) x kd n ar p r; rw [hh] at this; exact this)
      have HR4 : Hid (R = false) := hU (by rw [HR3.out, if_pos (.inl hh)])
      clear hh
      obtain ⟨P1, P2, P3, P4, P5, P6, P7, -⟩ := kU e0 (kU e1 (kU e2 (kU e3 (kU e4 (kU e5 (kU q16 trivial))))))
      refine wp_region_quiet_below (by kernel_rfl) (by kernel_rfl) ?_
      repeat (go_big_quiet_step ((with_reducible exact HH.out _ _)))
      refine wpQuiet_nil ?_
      intro W3 hb3
      replace hb3 := eQ hb3
      clear P1 P2 P3 P4 P5 P6 P7
      have zU := uU hb3 e0 (uU hb3 e1 (uU hb3 e2 (uU hb3 e3 (uU hb3 e4 (uU hb3 e5 (uU hb3 q16 trivial)))))); clear e0 e1 e2 e3 e4 e5 q16; obtain ⟨e0, e1, e2, e3, e4, e5, q16, -⟩ := zU
      replace HB := hU (bQ HB.out hb3)
      clear l1
      go_wp2_with fail
      go_ret
      exact ⟨by rw [HR4.out]; rfl, HB.out⟩
     | true =>
      have HH : Hid (∀ d os, Calls Tryz.prog 54 #[.agg #[.int .i64 x, .int .i64 kd, .int .i64 n, .int .i64 ar, .int .i64 p, .int .i64 r]] (grow (redrawn Y d) os) fun e w'' => e = .returned (.bool true) ∧ ∃ p : Regrown, w'' = grow (redrawn Y p.d) p.os) := hU fun d os => Calls.regrown_of (by have := vy_handling (w := grow (redrawn Y d) os) x kd n ar p r; rw [hh] at this; exact this)
      cases v with
      | true =>
       have HR4 : Hid (R = false) := hU (by rw [HR3.out, if_pos (.inr HV.out.symm)])
       clear hh
       obtain ⟨P1, P2, P3, P4, P5, P6, P7, -⟩ := kU e0 (kU e1 (kU e2 (kU e3 (kU e4 (kU e5 (kU q16 trivial))))))
       refine wp_region_quiet_below (by kernel_rfl) (by kernel_rfl) ?_
       repeat (go_big_quiet_step ((with_reducible exact HH.out _ _)))
       refine wpQuiet_nil ?_
       intro W3 hb3
       replace hb3 := eQ hb3
       clear P1 P2 P3 P4 P5 P6 P7
       have zU := uU hb3 e0 (uU hb3 e1 (uU hb3 e2 (uU hb3 e3 (uU hb3 e4 (uU hb3 e5 (uU hb3 q16 trivial)))))); clear e0 e1 e2 e3 e4 e5 q16; obtain ⟨e0, e1, e2, e3, e4, e5, q16, -⟩ := zU
       replace HB := hU (bQ HB.out hb3)
       clear l1
       go_wp2_with fail
       go_ret
       exact ⟨by rw [HR4.out]; rfl, HB.out⟩
      | false =>
       have HR4 : Hid (R = match c.ar p n with | none => true | some l => decide (x < l)) := hU (by rw [HR3.out, if_neg (fun h => h.elim (fun h => by rw [hh] at h; cases h) (fun h => by rw [← HV.out] at h; cases h))])
       clear hh
       obtain ⟨P1, P2, P3, P4, P5, P6, P7, -⟩ := kU e0 (kU e1 (kU e2 (kU e3 (kU e4 (kU e5 (kU q16 trivial))))))
       refine wp_region_quiet_below (by kernel_rfl) (by kernel_rfl) ?_
       repeat (go_big_quiet_step ((with_reducible exact HH.out _ _)))
       refine wpQuiet_nil ?_
       intro W3 hb3
       replace hb3 := eQ hb3
       clear P1 P2 P3 P4 P5 P6 P7
       have zU := uU hb3 e0 (uU hb3 e1 (uU hb3 e2 (uU hb3 e3 (uU hb3 e4 (uU hb3 e5 (uU hb3 q16 trivial)))))); clear e0 e1 e2 e3 e4 e5 q16; obtain ⟨e0, e1, e2, e3, e4, e5, q16, -⟩ := zU
       replace HB := hU (bQ HB.out hb3)
       replace HC := hU (HC.out.up hb3)
       clear l1 HH
       go_upto_region 8 with fail
       have q17 := HC.out.q17
       have l1 : ∀ d os, (Instr.lookup 65 (.map (some b.ar)) (.agg #[.int .i64 p, .int .i64 n]) true).run Tryz.prog (grow (redrawn W3 d) os) = .ok (.tuple #[.int .i64 ((c.ar p n).getD 0), .bool (c.ar p n).isSome]) (grow (redrawn W3 d) os) := fun d os => lk_ar (HC.out.up (below_regrown _ d os)) p n HJ.out.1 HJ.out.2.1
       cases ha : c.ar p n with
       | none =>
        have HR5 : Hid (R = true) := hU (by rw [HR4.out, ha])
        simp only [ha, Option.getD_none, Option.isSome_none] at l1
        clear ha
        obtain ⟨P1, P2, P3, P4, P5, P6, P7, -⟩ := kU e0 (kU e1 (kU e2 (kU e3 (kU e4 (kU e5 (kU q17 trivial))))))
        refine wp_region_quiet_below (by kernel_rfl) (by kernel_rfl) ?_
        repeat (go_big_quiet_step ((fail)))
        refine wpQuiet_nil ?_
        intro W4 hb4
        replace hb4 := eQ hb4
        clear P1 P2 P3 P4 P5 P6 P7
        have zU := uU hb4 e0 (uU hb4 e1 (uU hb4 e2 (uU hb4 e3 (uU hb4 e4 (uU hb4 e5 (uU hb4 q17 trivial)))))); clear e0 e1 e2 e3 e4 e5 q17; obtain ⟨e0, e1, e2, e3, e4, e5, q17, -⟩ := zU
        replace HB := hU (bQ HB.out hb4)
        clear l1
        go_wp2_with fail
        go_ret
        exact ⟨by rw [HR5.out]; rfl, HB.out⟩
       | some l =>
        have HR5 : Hid (R = decide (x < l)) := hU (by rw [HR4.out, ha])
        simp only [ha, Option.getD_some, Option.isSome_some] at l1
        clear ha
        obtain ⟨P1, P2, P3, P4, P5, P6, P7, -⟩ := kU e0 (kU e1 (kU e2 (kU e3 (kU e4 (kU e5 (kU q17 trivial))))))
        refine wp_region_quiet_below (by kernel_rfl) (by kernel_rfl) ?_
        repeat (go_big_quiet_step ((fail)))
        refine wpQuiet_nil ?_
        intro W4 hb4
        replace hb4 := eQ hb4
        clear P1 P2 P3 P4 P5 P6 P7
        have zU := uU hb4 e0 (uU hb4 e1 (uU hb4 e2 (uU hb4 e3 (uU hb4 e4 (uU hb4 e5 (uU hb4 q17 trivial)))))); clear e0 e1 e2 e3 e4 e5 q17; obtain ⟨e0, e1, e2, e3, e4, e5, q17, -⟩ := zU
        replace HB := hU (bQ HB.out hb4)
        clear l1
        by_cases g : x < l
        ·have g1 : decide (l > x) = true := by simp [g]
         have HR6 : Hid (R = true) := hU (by rw [HR5.out]; simp [g])
         clear g
         go_wp2_with fail
         go_ret
         exact ⟨by rw [HR6.out]; rfl, HB.out⟩
        ·have g1 : decide (l > x) = false := by simp; omega
         have HR6 : Hid (R = false) := hU (by rw [HR5.out]; simp; omega)
         clear g
         go_wp2_with fail
         go_ret
         exact ⟨by rw [HR6.out]; rfl, HB.out⟩
  exact AllReadyH.nil
 exact AllReadyH.nil
end
end
end Go.Proofs.YtdnjflpmbnjgeaaGreat
