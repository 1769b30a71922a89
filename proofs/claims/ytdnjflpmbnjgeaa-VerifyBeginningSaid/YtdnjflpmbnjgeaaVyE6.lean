/-
  see: kind 6 (printed by gen_vye2.py).
-/
import Derived.Test.YtdnjflpmbnjgeaaPkFe
import Derived.Test.YtdnjflpmbnjgeaaPkRtJ
namespace Go.Proofs.Ytdnjflpmbnjgeaa
set_option linter.unusedSimpArgs false
set_option linter.unusedVariables false
open Go.RowKit Go.Sort
section
variable {w w0 : World} {F : FaN} {A1 A2 O : Option Addr} {c1 c2 co : Nat} {fl : Value} {b : CkB} {pm : Int → Option PkN} {pr : Int → Bool}
/-- A list of ints in memory of its own, where it lies. -/
theorem own_far {w : World} {B : Nat} {E : TypeId} {v : Value} {n : Nat} {xs : List Value} (h : w.ownsRow B E 1 v n xs) : ∃ A c, v = .slice A n c ∧ Rd w A xs ∧ ∀ p, A = some p → B ≤ p.block := by
  have h0 := h
  obtain ⟨A, c, rfl, _, _, hr⟩ := rd_of_own h
  refine ⟨A, c, rfl, hr, fun p hp => ?_⟩
  subst hp
  rcases h0 with ⟨hl, ⟨e, _⟩ | ⟨g, cap, cur, e, hB, _⟩⟩
  · injection e with e; cases e
  · injection e with e; injection e with e; subst e; exact hB
theorem Rd.kpV {X : List Nat} {W W' : World} {A : Option Addr} {xs : List Value} (h : Rd W A xs) (hK : Kp X W W') (hne : ∀ p, A = some p → p.block ∉ X) : Rd W' A xs := by
  rcases h with h | ⟨b, o, rfl, hc⟩
  · exact .inl h
  · refine .inr ⟨b, o, rfl, fun j u hu => ?_⟩
    have h1 := hc j u hu
    have hlt : b < W.heap.size := by
      rcases Nat.lt_or_ge b W.heap.size with h2 | h2
      · exact h2
      · simp [World.cell?, Array.getElem?_eq_none h2] at h1
    rw [World.cell?_of_block (w := W) (hK.blk b hlt (hne _ rfl))]
    exact h1
theorem foldl_len : ∀ (l : List Int) (u : List Bool), (l.foldl (fun u (a : Int) => u.set a.toNat false) u).length = u.length
  | [], _ => rfl
  | a :: l, u => by rw [List.foldl_cons, foldl_len l]; simp
theorem foldl_get : ∀ (l : List Int) (u : List Bool) (j : Nat), (∀ a ∈ l, 0 ≤ a) → (l.foldl (fun u (a : Int) => u.set a.toNat false) u).getD j false = (u.getD j false && !l.contains (j : Int))
  | [], u, j, _ => by simp
  | a :: l, u, j, h => by
    rw [List.foldl_cons, foldl_get l _ j (fun b hb => h b (by simp [hb]))]
    have ha := h a (by simp)
    rw [List.contains_cons, List.getD_eq_getElem?_getD, List.getElem?_set, List.getD_eq_getElem?_getD]
    by_cases e : a.toNat = j
    · have e2 : ((j : Int) == a) = true := by rw [beq_iff_eq]; omega
      rw [if_pos e, e2]
      by_cases hj : a.toNat < u.length <;> simp [hj]
    · have e2 : ((j : Int) == a) = false := by rw [beq_eq_false_iff_ne]; omega
      rw [if_neg e, e2, Bool.false_or]
theorem off_fold (t : Topo) (r : Int) (u : List Bool) (hu : u.length = 2 * t.ls.length) : (ups (outP t r) (2 * t.ls.length)).foldl (fun u (a : Int) => u.set a.toNat false) u = offU t r u := by
  refine List.ext_getElem (by rw [foldl_len, offU_len]) fun j h1 h2 => ?_
  have hj : j < u.length := by rw [foldl_len] at h1; exact h1
  have e1 := foldl_get (ups (outP t r) (2 * t.ls.length)) u j (fun a ha => (mem_ups.1 ha).1)
  have e2 := offU_at t r u (j := (j : Int)) (by omega) (by omega)
  rw [List.getD_eq_getElem?_getD, List.getElem?_eq_getElem h1] at e1
  rw [List.getD_eq_getElem?_getD, show ((j : Int)).toNat = j by omega, List.getElem?_eq_getElem h2] at e2
  have e3 : (ups (outP t r) (2 * t.ls.length)).contains (j : Int) = (tail t (j : Int) == r) := by
    rw [Bool.eq_iff_iff, List.contains_iff_mem, mem_ups]
    unfold outP
    constructor
    · exact fun h => h.2.2
    · exact fun h => ⟨by omega, by omega, h⟩
  rw [e3] at e1
  exact by simpa using e1.trans e2.symm
set_option maxRecDepth 100000 in
set_option maxHeartbeats 16000000 in
theorem vy_see6 (c : CkS) (x n a p r : Int) (hC : CkAt F A1 A2 O c1 c2 co fl b pm pr c w) (hle : ∀ j ∈ b.L, w0.heap.size ≤ j) (h0 : Below w0.heap.size w0 w) (hT : TAt w0 A1 A2 F.t) (hv : valid F.t = true) (hev : evOk ⟨x, 6, n, a, p, r⟩ = true) (hnm : namedB F.t ⟨x, 6, n, a, p, r⟩ = true)
    (l1 : c.st.length = F.t.n.toNat) (l2 : c.en.length = F.t.n.toNat) (l3 : c.ch.length = F.t.n.toNat) (l4 : c.up.length = 2 * F.t.ls.length) (hcr : ∀ q j, 0 ≤ c.cr q j ∧ c.cr q j ≤ 1000000) :
    Calls Try.prog 23 #[.pointer (some ⟨b.cb, 0, none⟩), .agg #[.int .i64 x, .int .i64 6, .int .i64 n, .int .i64 a, .int .i64 p, .int .i64 r]] w fun e w' => e = .returned (.tuple #[]) ∧ CkAt F A1 A2 O c1 c2 co fl b pm pr (seeS F.t c ⟨x, 6, n, a, p, r⟩) w' ∧ Kp b.L w w' := by
  have hlt : ∀ j ∈ b.L, j < w.heap.size := hC.lt
  obtain ⟨R, hR⟩ : ∃ R, R = seeS F.t c ⟨x, 6, n, a, p, r⟩ := ⟨_, rfl⟩
  rw [← hR]
  have HR := Lib.hid hR
  have HC0 := Lib.hid hC
  have HLE := Lib.hid hle
  have HLT := Lib.hid hlt
  have HB0 := Lib.hid h0
  have HT := Lib.hid hT
  have HV := Lib.hid hv
  have HL1 := Lib.hid l1
  have HL2 := Lib.hid l2
  have HL3 := Lib.hid l3
  have HL4 := Lib.hid l4
  have HCR := Lib.hid hcr
  have HN := Lib.hid (valid_n hv)
  have HLL := Lib.hid (valid_ls hv)
  have HTW : Hid (∀ W, Kp b.L w W → TAt W A1 A2 F.t) := Lib.hid (fun W hK => HT.out.below (hK.below HB0.out HB0.out.size HLE.out))
  have HNM := Lib.hid hnm
  have HEV := Lib.hid hev
  have z0 := hC.q0
  have z1 := hC.q1
  have z2 := hC.q2
  have u1 := hC.own.lt
  have u2 : b.cb ≠ w.heap.size := Nat.ne_of_lt u1
  have u3 : w.heap.size ≠ b.cb := fun e => u2 e.symm
  have HJx : Hid (inJ x) := Lib.hid (evJ hev).1
  have HJn : Hid (inJ n) := Lib.hid (evJ hev).2.1
  have HJa : Hid (inJ a) := Lib.hid (evJ hev).2.2.1
  have HJp : Hid (inJ p) := Lib.hid (evJ hev).2.2.2.1
  have HJr : Hid (inJ r) := Lib.hid (evJ hev).2.2.2.2
  clear hR hC hle hlt h0 hT hv l1 l2 l3 l4 hcr hnm hev
  by_cases ha : a = 2
  · subst ha
    have hrb : 0 ≤ r ∧ r < F.t.n := by
      have := HNM.out
      simp [namedB, compV, compOk2] at this
      exact isN_true.1 this.2
    obtain ⟨hr0, hr1⟩ := hrb
    obtain ⟨M, hM⟩ : ∃ M, M = F.t.n.toNat := ⟨_, rfl⟩
    rw [← hM] at HL1 HL2 HL3
    have hrM : r < (M : Int) := by omega
    have hM64 : M ≤ 64 := by have := HN.out; omega
    have HM := Lib.hid hM
    have HRU : Hid (R = { c with dn := fun n => if n = r then false else c.dn n, st := c.st.set r.toNat 3, up := offU F.t r c.up }) := Lib.hid (by rw [HR.out]; rfl)
    clear HR hM
    go_enter Try.func23, Try.ntmps23
    go_upto_region 2 with fail
    refine wp_named5 (fun X => SeeW w F A1 A2 O c1 c2 co fl b pm pr x 6 n 2 p r c X) ⟨HC0.out.up (below_two w _ _), (Bl.new w _ _).up (below_box _ _), by simpa using Bl.new (w.alloc (.cells #[.int .i64 x, .int .i64 6, .int .i64 n, .int .i64 2, .int .i64 p, .int .i64 r] 49)) _ _, Kp.of (below_two w _ _)⟩ ?_
    intro X hX
    have HX := Lib.hid hX
    clear hX z0 z1 z2 u1 u2 u3 HC0
    obtain ⟨e0, e1, e2, e3, e4, e5, _⟩ := HX.out.e.c6
    obtain ⟨y0, y1, y2, _⟩ := HX.out.t.c3
    have z10 := HX.out.c.q10
    go_upto_region 19 with fail
    obtain ⟨w9, hu, hf9, hg9⟩ := (HX.out.up (below_drwV _)).c.m.dn.del (ty := 0) key_int Try.underlying57 r (keyJ HJr.out) (enc1_inj r)
    unfold enc1 at hu
    have HK9 := Lib.hid (kp_of hg9)
    have HF9 := Lib.hid hf9
    clear hf9 hg9
    refine wp_region_still_tailV 6 (by kernel_rfl) (by kernel_rfl) ?_
    simp only [List.take_succ_cons, List.take_zero, List.drop_succ_cons, List.drop_zero]
    repeat still_step
    refine wpStill_nil ?_
    replace HX := Lib.hid (SeeW.wrote (HX.out.up (below_drwV _)) HLT.out (q := b.dn) (by simp [CkB.L]) HK9.out (CkAt.on_dn (HX.out.up (below_drwV _)).c (kp_blk HK9.out) (fun q => if q = r then false else c.dn q) HF9.out))
    clear HK9 HF9
    go_upto_region 20 with fail
    refine wp_named5 (fun Y => SeeW w F A1 A2 O c1 c2 co fl b pm pr x 6 n 2 p r { c with dn := fun q => if q = r then false else c.dn q } Y) HX.out ?_
    clear HX
    intro X hX
    have HX := Lib.hid hX
    clear hX
    obtain ⟨e0, e1, e2, e3, e4, e5, _⟩ := HX.out.e.c6
    obtain ⟨y0, y1, y2, _⟩ := HX.out.t.c3
    have z11 := HX.out.c.q11
    have hln : ({ c with dn := fun q => if q = r then false else c.dn q } : CkS).st.length = M := by simp [HL1.out]
    rw [hln] at z11
    have hcl := RowI.cell (i := r) HX.out.c.m.st (by omega) (by rw [hln]; omega)
    clear hln
    have hfz : X.frozen? ⟨b.st, (r).toNat, none⟩ = false := Bl.frz HX.out.c.m.st _
    refine wp_region_still_tailV 7 (by kernel_rfl) (by kernel_rfl) ?_
    simp only [List.take_succ_cons, List.take_zero, List.drop_succ_cons, List.drop_zero]
    repeat still_step
    refine wpStill_nil ?_
    replace HX := Lib.hid (SeeW.wrote (HX.out.up (below_drwV _)) HLT.out (q := b.st) (by simp [CkB.L]) (kp_cell (j := (r).toNat) (v := .int .i64 3)) (CkAt.on_st (HX.out.up (below_drwV _)).c (kp_blk kp_cell) (c.st.set (r).toNat 3) (by simp) (RowI.set (HX.out.up (below_drwV _)).c.m.st (r).toNat 3)))
    clear hu
    go_upto_region 21 with fail
    refine wp_named5 (fun Y => SeeW w F A1 A2 O c1 c2 co fl b pm pr x 6 n 2 p r { { c with dn := fun q => if q = r then false else c.dn q } with st := c.st.set r.toNat 3 } Y) HX.out ?_
    clear HX
    intro X hX
    have HX := Lib.hid hX
    clear hX
    obtain ⟨e0, e1, e2, e3, e4, e5, _⟩ := HX.out.e.c6
    obtain ⟨y0, y1, y2, _⟩ := HX.out.t.c3
    obtain ⟨l, hl⟩ : ∃ l, l = ups (outP F.t r) (2 * F.t.ls.length) := ⟨_, rfl⟩
    have HUP := Lib.hid (show b.up < X.heap.size from Bl.lt HX.out.c.m.up)
    have hln : l.length ≤ 512 := by have := HLL.out; rw [hl]; exact Nat.le_trans (ups_le _ _) (by omega)
    have hlm : ∀ a ∈ l, 0 ≤ a ∧ a < 2 * (F.t.ls.length : Int) := fun a ha => by
      rw [hl] at ha
      have := mem_ups.1 ha
      omega
    have HLM := Lib.hid hlm
    have HOUT := Lib.hid (graph_OutO F.t A1 A2 c1 c2 r X (HTW.out _ HX.out.kp) (by have := HLL.out; omega))
    rw [← hl] at HOUT
    have HLD := Lib.hid hl
    clear hl hlm
    go_wp2_with (go_at_call 43; (with_reducible refine (HOUT.out).mono ?_); rintro e w10 ⟨v, rfl, ho, hb⟩; obtain ⟨A, cc, rfl, hrd, hfar⟩ := own_far ho; have HRD := Lib.hid hrd; have HFAR := Lib.hid (show ∀ q, A = some q → q.block ∉ [b.up] from fun q hq => by have := hfar q hq; have := HUP.out; simp; omega); replace HX := Lib.hid (HX.out.up hb); clear ho hb hrd hfar HOUT HUP e0 e1 e2 e3 e4 e5 y0 y1 y2)
    go_loopw [137] (fun i wr => ∃ k : Nat, k ≤ l.length ∧ i = .int .i64 k ∧ Hid (Rd wr A (l.map (Value.int .i64))) ∧ Hid (SeeW w F A1 A2 O c1 c2 co fl b pm pr x 6 n 2 p r { { { c with dn := fun q => if q = r then false else c.dn q } with st := c.st.set r.toNat 3 } with up := (l.take k).foldl (fun u a => u.set a.toNat false) c.up } wr)) (fun i _ => l.length - (intOf i).toNat)
    case atStart => exact ⟨0, Nat.zero_le _, rfl, HRD, HX⟩
    case round =>
      clear HX HRD
      obtain ⟨k, hk, rfl, HRD, HX⟩ := hrel
      by_cases hlt : k < l.length
      · have hlt' : (k : Int) < (l.length : Int) := by omega
        obtain ⟨bz, oz, ar, hAz, haz, caz⟩ := ints_at HRD.out hlt
        have HTK : Hid (l.take (k + 1) = l.take k ++ [ar]) := Lib.hid (by rw [List.take_add_one, haz]; rfl)
        obtain ⟨ha0, ha1⟩ := HLM.out ar (List.mem_of_getElem? haz)
        have hul : ((l.take k).foldl (fun u (a : Int) => u.set a.toNat false) c.up).length = 2 * F.t.ls.length := by rw [foldl_len, HL4.out]
        have z14 : wr.cell? ⟨b.cb, 14, none⟩ = some (.slice (some ⟨b.up, 0, none⟩) (2 * F.t.ls.length) (2 * F.t.ls.length)) := by rw [← hul]; exact HX.out.c.q14
        have hcl := RowB.cell (i := ar) HX.out.c.m.up ha0 (by rw [hul]; omega)
        have hfz : wr.frozen? ⟨b.up, ar.toNat, none⟩ = false := Bl.frz HX.out.c.m.up _
        have hll := HLL.out
        clear haz
        subst hAz
        go_wp2_with fail
        go_roundw
        case rel => exact ⟨k + 1, by omega, by go_num, Lib.hid (HRD.out.kpV kp_cell HFAR.out), Lib.hid (by
          rw [HTK.out, List.foldl_append]
          exact SeeW.wrote HX.out HLT.out (q := b.up) (by simp [CkB.L]) (kp_cell (j := ar.toNat) (v := .bool false)) (CkAt.on_up HX.out.c (kp_blk kp_cell) _ (by simp) (RowB.set HX.out.c.m.up ar.toNat false)))⟩
        case measure => simp [intOf]; omega
      · obtain rfl : k = l.length := by omega
        go_wp2_with fail
        go_end0
        refine ⟨rfl, ?_, HX.out.kp⟩
        have hc := HX.out.c
        rw [List.take_length, show l.foldl (fun u (a : Int) => u.set a.toNat false) c.up = offU F.t r c.up from by rw [HLD.out]; exact off_fold F.t r c.up HL4.out] at hc
        rw [HRU.out]
        exact hc
  · skip
    go_enter Try.func23, Try.ntmps23
    go_upto_region 2 with fail
    refine wp_named5 (fun X => SeeW w F A1 A2 O c1 c2 co fl b pm pr x 6 n a p r c X) ⟨HC0.out.up (below_two w _ _), (Bl.new w _ _).up (below_box _ _), by simpa using Bl.new (w.alloc (.cells #[.int .i64 x, .int .i64 6, .int .i64 n, .int .i64 a, .int .i64 p, .int .i64 r] 49)) _ _, Kp.of (below_two w _ _)⟩ ?_
    intro X hX
    have HX := Lib.hid hX
    clear hX z0 z1 z2 u1 u2 u3 HC0
    obtain ⟨e0, e1, e2, e3, e4, e5, _⟩ := HX.out.e.c6
    obtain ⟨y0, y1, y2, _⟩ := HX.out.t.c3
    have z10 := HX.out.c.q10
    go_wp2_with fail
    go_end0
    refine ⟨rfl, ?_, HX.out.kp⟩
    have hc := HX.out.c
    rw [HR.out]
    rwa [show seeS F.t c ⟨x, 6, n, a, p, r⟩ = c from by simp [seeS, ha]]
end
end Go.Proofs.Ytdnjflpmbnjgeaa
