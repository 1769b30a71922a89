/-
  VerifyBeginning: the walk of the law (printed by gen_vl2.py).
-/
import Derived.Test.YtdnjflpmbnjgeaaPkVl0
namespace Go.Proofs.Ytdnjflpmbnjgeaa
set_option linter.unusedSimpArgs false
set_option linter.unusedVariables false
open Go.RowKit Go.Sort
theorem trOk_take {tr : List Ev} (h : trOk tr = true) (k : Nat) : trOk (tr.take k) = true := by
  refine trOk_of fun j hj => ?_
  rw [List.length_take] at hj
  have h1 := trOk_at h (k := j) (by omega)
  have e1 : (tr.take k).getD j default = tr.getD j default := by
    rw [List.getD_eq_getElem?_getD, List.getD_eq_getElem?_getD, List.getElem?_take_of_lt (by omega)]
  have e2 : (tr.take k).getD (j - 1) default = tr.getD (j - 1) default := by
    rw [List.getD_eq_getElem?_getD, List.getD_eq_getElem?_getD, List.getElem?_take_of_lt (by omega)]
  unfold goodE at *
  rw [e1, e2]
  exact h1
theorem vyOk_take {F : FaN} {ps : List PkN} {tr : List Ev} (h : vyOk F ps tr = true) (k : Nat) : vyOk F ps (tr.take k) = true := by
  unfold vyOk at *
  simp only [Bool.and_eq_true] at *
  obtain ⟨h1, h2, h3, h4, h5⟩ := h
  exact ⟨h1, h2, h3, trOk_take h4 k, List.all_eq_true.2 fun e he => List.all_eq_true.1 h5 e (List.mem_of_mem_take he)⟩
/-- What is known of what Check has returned. -/
def VyQ (F : FaN) (ps : List PkN) (tr : List Ev) (A : Option Addr) (n : Nat) (x : Int) (W : World) : Prop :=
  (vyOk F ps tr = false ∧ x = 1) ∨ (vyOk F ps tr = true ∧ x = 0 ∧ ∃ l, n = l.length ∧ Hid (l = runV F ps (protV F tr ps) (downV F) (CkS.new F.t) 0 tr) ∧ Rd W A (l.flatMap vioL))
theorem VyQ.up {F : FaN} {ps : List PkN} {tr : List Ev} {A : Option Addr} {n : Nat} {x : Int} {W W' : World} (h : VyQ F ps tr A n x W) (hb : Below W.heap.size W W') : VyQ F ps tr A n x W' := by
  rcases h with h | ⟨h1, h2, l, h3, h4, h5⟩
  · exact .inl h
  · exact .inr ⟨h1, h2, l, h3, h4, h5.below hb⟩
theorem RetVy.q {F : FaN} {ps : List PkN} {tr : List Ev} {w w' : World} {e : Ending} (h : RetVy F ps tr w e w') : ∃ (A : Option Addr) (n cp : Nat) (x : Int), e = .returned (.tuple #[.slice A n cp, .int .i64 x]) ∧ Hid (VyQ F ps tr A n x w') ∧ Below w.heap.size w w' := by
  obtain ⟨hb, ⟨hv, he⟩ | ⟨hv, A, cp, l, hl, he, hr⟩⟩ := h
  · exact ⟨none, 0, 0, 1, he, Lib.hid (.inl ⟨hv, rfl⟩), hb⟩
  · exact ⟨A, l.length, cp, 0, he, Lib.hid (.inr ⟨hv, rfl, l, rfl, Lib.hid hl, hr⟩), hb⟩
def keepX (k : Nat) (x : Int × Int) : Bool := lowV x && decide (x.1 < (k : Int))
theorem filter_snoc {α : Type} {p : α → Bool} {l : List α} {k : Nat} {x : α} (h : l[k]? = some x) : (l.take (k + 1)).filter p = (l.take k).filter p ++ (if p x = true then [x] else []) := by
  rw [List.take_add_one, h, List.filter_append]
  cases hp : p x <;> simp [hp]
theorem vy_same (F : FaN) (ps : List PkN) (tr : List Ev) (k : Nat) : (runV F ps (protV F tr ps) (downV F) (CkS.new F.t) 0 tr).filter (keepX k) = (runV F ps (protV F (tr.take k) ps) (downV F) (CkS.new F.t) 0 (tr.take k)).filter lowV := by
  have := run_take F ps (protV F tr ps) (protV F (tr.take k) ps) (downV F) (downV F) tr k (CkS.new F.t) 0
  rw [Nat.zero_add] at this
  exact this
theorem vioInfo6 : (Try.prog.info? 42).map (fun i => (i.zero, i.size, i.bytes)) = some (some (.agg #[.int .i64 0, .int .i64 0]), 2, 16) := by kernel_rfl
theorem wpList_vio6 (w : World) (i k : Int) {ops : Array Oper} {rest : List Oper} {a : Act} {Q : Exit → Act → World → Prop} {d : Option Nat} {s x : Operand} {ty : TypeId} {po : String} {af : Array Edge} (B : Nat) (v : Value) (l : List (Int × Int))
    (hown : w.ownsRow B 42 2 v l.length (l.flatMap vioL)) (hl : l.length ≤ 100000000) (hB : B ≤ w.heap.size) (hs : a.eval s = v) (hx : a.eval x = .slice (some ⟨w.heap.size, 0, none⟩) 1 1)
    (h : ∀ v' w' L', SnocV L' l (i, k) → w'.ownsRow B 42 2 v' L'.length (L'.flatMap vioL) → Below B w w' → (w.alloc (.cells #[.int .i64 i, .int .i64 k] 42)).grownBy w' v.ownBlock → wpList Try.prog ops Q rest (a.put d v') w') :
    wpList Try.prog ops Q ({ dst := d, op := .call { callee := .builtin .append, args := #[s, x], argTypes := #[39, 39] }, type := ty, pos := po, after := af, guard := none } :: rest) a (w.alloc (.cells #[.int .i64 i, .int .i64 k] 42)) := by
  obtain ⟨i0, hi, hz0, hz1, hz2⟩ := info_parts vioInfo6
  refine wpList_append_own _ rfl s x 39 rfl B 42 i0 (.agg #[.int .i64 0, .int .i64 0]) 2 16 Try.underlying39 hi hz0 hz1 hz2 rfl (by decide) v l.length (l.flatMap vioL) hs (own_up hown (below_box _ _)) ⟨w.heap.size, 0, none⟩ 1 1 [.int .i64 i, .int .i64 k] hx rfl ?_ ?_ ?_ ?_ ?_ ?_
  · exact vcells_new _ _ _ _ (by simp)
  · intro u hu
    simp at hu
    rcases hu with rfl | rfl <;> rfl
  · unfold maxLen; omega
  · omega
  · simp; omega
  · intro v' w' h1 h2 _
    have h3 : w'.ownsRow B 42 2 v' (l ++ [(i, k)]).length ((l ++ [(i, k)]).flatMap vioL) := by
      rw [List.length_append, List.flatMap_append]
      simpa [vioL] using h1
    exact h v' w' _ rfl h3 (((Below.refl B w).alloc hB _).grown h2 (by simp; omega) (fun k hk => (hown.lt k hk).1)) h2
set_option maxRecDepth 100000 in
theorem slice_to (C : Option Addr) (n K ct : Nat) (W : World) (h1 : K ≤ n) (h2 : n ≤ ct) (h3 : ct ≤ maxLen) : (Instr.slice 30 (.slice C n ct) none (some (.int .i64 (K : Int))) none).run Try.prog W = .ok (.slice C K ct) W := by
  have hsz : (sizeOf (Try.prog.elem 30)).run Try.prog W = .ok 6 W := by kernel_rfl
  have ht : Try.prog.underlying 30 = some (.slice (Try.prog.elem 30)) := by kernel_rfl
  rw [run_slice_h (ht := ht) (h := (K : Int)) (h0 := by omega) (h2 := by omega), hsz]
  simp [sliced, Result.andThen]
  intro _
  cases C <;> simp [Addr.add]
def r5D : Nat → Nat
  | 0 => 40
  | 1 => 41
  | 2 => 42
  | 3 => 43
  | 4 => 44
  | 5 => 45
  | 6 => 46
  | 7 => 47
  | 8 => 48
  | 9 => 39
  | 10 => 49
  | 11 => 50
  | 12 => 8
  | _ => 0
theorem r5D_lt : ∀ i, i < 13 → r5D i < 51 := by decide +kernel
theorem r5D_inj : ∀ i, i < 13 → ∀ j, j < 13 → r5D i = r5D j → i = j := by decide +kernel
def r5V (F : FaN) (ps : List PkN) (tr : List Ev) (A1 A2 O B C : Option Addr) (c1 c2 co cp ct K xb : Nat) : Nat → Value
  | 0 => .pointer (some ⟨xb, 0, none⟩)
  | 1 => .agg #[.int .i64 F.t.n, .slice A1 F.t.ov.length c1, .slice A2 F.t.ls.length c2, .int .i64 F.det, .int .i64 F.ga, .int .i64 F.ho, .slice O F.out.length co]
  | 2 => .pointer (some ⟨xb, 7, none⟩)
  | 3 => .slice B ps.length cp
  | 4 => .pointer (some ⟨xb, 8, none⟩)
  | 5 => .slice C tr.length ct
  | 6 => .int .i64 (K : Int)
  | 7 => .slice C K ct
  | _ => undef
theorem r5_put (x : Nat → Value) (T : Array Value) : putAll r5D x 13 T = (((((((((((((T.setIfInBounds 40 (x 0)).setIfInBounds 41 (x 1)).setIfInBounds 42 (x 2)).setIfInBounds 43 (x 3)).setIfInBounds 44 (x 4)).setIfInBounds 45 (x 5)).setIfInBounds 46 (x 6)).setIfInBounds 47 (x 7)).setIfInBounds 48 (x 8)).setIfInBounds 39 (x 9)).setIfInBounds 49 (x 10)).setIfInBounds 50 (x 11)).setIfInBounds 8 (x 12)) := rfl
structure R5G (F : FaN) (ps : List PkN) (tr : List Ev) (A1 A2 O B C : Option Addr) (c1 c2 co cp ct K xb : Nat) (i : Nat) (v : Value) (W : World) : Prop where
  r : i < 8 → v = r5V F ps tr A1 A2 O B C c1 c2 co cp ct K xb i
  t : i = 8 ∨ i = 9 → ∃ A n c x, v = .tuple #[.slice A n c, .int .i64 x] ∧ VyQ F ps (tr.take K) A n x W
  s : i = 10 ∨ i = 12 → ∃ A n c x, v = .slice A n c ∧ VyQ F ps (tr.take K) A n x W
  e : i = 11 → ∃ A n x, v = .int .i64 x ∧ VyQ F ps (tr.take K) A n x W
theorem R5G.up {F : FaN} {ps : List PkN} {tr : List Ev} {A1 A2 O B C : Option Addr} {c1 c2 co cp ct K xb i : Nat} {v : Value} {W W' : World} (h : R5G F ps tr A1 A2 O B C c1 c2 co cp ct K xb i v W) (hb : Below W.heap.size W W') : R5G F ps tr A1 A2 O B C c1 c2 co cp ct K xb i v W' :=
  ⟨h.r, fun e => by obtain ⟨A, n, c, x, h1, h2⟩ := h.t e; exact ⟨A, n, c, x, h1, h2.up hb⟩, fun e => by obtain ⟨A, n, c, x, h1, h2⟩ := h.s e; exact ⟨A, n, c, x, h1, h2.up hb⟩, fun e => by obtain ⟨A, n, x, h1, h2⟩ := h.e e; exact ⟨A, n, x, h1, h2.up hb⟩⟩
section
variable {w : World}
set_option maxRecDepth 100000 in
set_option maxHeartbeats 16000000 in
theorem law_VerifyBeginning (F : FaN) (ps : List PkN) (tr : List Ev) (n : Int) (A1 A2 O B C : Option Addr) (c1 c2 co cp ct : Nat) (hT : TAt w A1 A2 F.t) (hO : Rd w O (F.out.flatMap outL)) (hP : Rd w B (ps.flatMap pkL)) (hE : RdE w C tr)
    (hct : tr.length ≤ ct) (hctm : ct ≤ maxLen) (hid : ∀ p ∈ ps, inJ p.id) (hn : 0 ≤ n ∧ n < 256) :
    Calls Try.prog 3 #[.agg #[.int .i64 F.t.n, .slice A1 F.t.ov.length c1, .slice A2 F.t.ls.length c2, .int .i64 F.det, .int .i64 F.ga, .int .i64 F.ho, .slice O F.out.length co, .slice B ps.length cp, .slice C tr.length ct], .int .u8 n] w fun e w' => e = .returned (.bool true) ∧ Below w.heap.size w w' := by
  have HB0 := below_box w (.cells #[.int .i64 F.t.n, .slice A1 F.t.ov.length c1, .slice A2 F.t.ls.length c2, .int .i64 F.det, .int .i64 F.ga, .int .i64 F.ho, .slice O F.out.length co, .slice B ps.length cp, .slice C tr.length ct] 32)
  have hX0 := Bl.new w #[.int .i64 F.t.n, .slice A1 F.t.ov.length c1, .slice A2 F.t.ls.length c2, .int .i64 F.det, .int .i64 F.ga, .int .i64 F.ho, .slice O F.out.length co, .slice B ps.length cp, .slice C tr.length ct] 32
  obtain ⟨W0, hW0⟩ : ∃ W0, W0 = w.alloc (.cells #[.int .i64 F.t.n, .slice A1 F.t.ov.length c1, .slice A2 F.t.ls.length c2, .int .i64 F.det, .int .i64 F.ga, .int .i64 F.ho, .slice O F.out.length co, .slice B ps.length cp, .slice C tr.length ct] 32) := ⟨_, rfl⟩
  rw [← hW0] at HB0 hX0
  have HBW := Lib.hid HB0
  have HX := Lib.hid hX0
  have HT := Lib.hid (hT.below HB0)
  have HO := Lib.hid (hO.below HB0)
  have HP := Lib.hid (hP.below HB0)
  have HTR := Lib.hid (hE.below HB0)
  have HID := Lib.hid hid
  have HCT := Lib.hid hct
  have HCM := Lib.hid hctm
  have HN := Lib.hid hn
  obtain ⟨f0, f1, f2, f3, f4, f5, f6, f7, f8, _⟩ := bl9 HX.out
  clear hT hO hP hE hid hX0 HB0 hct hctm hn
  go_enter Try.func3, Try.ntmps3
  go_upto_region 1 with fail
  rw [← hW0]
  clear hW0
  cases hlg : lgB F ps tr with
  | true =>
    have HLG := Lib.hid hlg
    clear hlg
    go_wp2_with (first | (go_at_call 4; (with_reducible refine law56_awake.mono ?_); rintro e w1 ⟨rfl, hb1⟩; replace HX := Lib.hid (HX.out.up hb1); replace HP := Lib.hid (HP.out.below hb1); replace HBW := Lib.hid (below_next HBW.out hb1); clear hb1 f0 f1 f2 f3 f4 f5 f6 f7 f8; obtain ⟨f0, f1, f2, f3, f4, f5, f6, f7, f8, _⟩ := bl9 HX.out) | (go_at_call 5; (with_reducible refine (law56_large F ps tr A1 A2 O B C c1 c2 co cp ct HP.out).mono ?_); rw [HLG.out]; rintro e w2 ⟨rfl, hb1⟩; replace HX := Lib.hid (HX.out.up hb1); replace HP := Lib.hid (HP.out.below hb1); replace HBW := Lib.hid (below_next HBW.out hb1); clear hb1 f0 f1 f2 f3 f4 f5 f6 f7 f8; obtain ⟨f0, f1, f2, f3, f4, f5, f6, f7, f8, _⟩ := bl9 HX.out))
    go_ret
    exact ⟨rfl, HBW.out⟩
  | false =>
    have HLG := Lib.hid hlg
    have hsz : (F.t.ls.length ≤ 100000 ∧ F.out.length ≤ 100000 ∧ ps.length ≤ 100000 ∧ tr.length ≤ 100000) ∧ ∀ p ∈ ps, p.sn ≤ 1000000 := by
      unfold lgB at hlg
      simp only [Bool.or_eq_false_iff, decide_eq_false_iff_not] at hlg
      obtain ⟨⟨h0, h1, h2, h3, h4⟩, h5⟩ := hlg
      refine ⟨by omega, fun p hp => ?_⟩
      have := List.any_eq_false.1 h5 p hp
      simp at this
      omega
    have HSZ := Lib.hid hsz
    clear hlg hsz
    go_upto_region 3 with (first | (go_at_call 4; (with_reducible refine law56_awake.mono ?_); rintro e w1 ⟨rfl, hb1⟩; replace HX := Lib.hid (HX.out.up hb1); replace HT := Lib.hid (HT.out.below hb1); replace HO := Lib.hid (HO.out.below hb1); replace HTR := Lib.hid (HTR.out.below hb1); replace HP := Lib.hid (HP.out.below hb1); replace HBW := Lib.hid (below_next HBW.out hb1); clear hb1 f0 f1 f2 f3 f4 f5 f6 f7 f8; obtain ⟨f0, f1, f2, f3, f4, f5, f6, f7, f8, _⟩ := bl9 HX.out) | (go_at_call 5; (with_reducible refine (law56_large F ps tr A1 A2 O B C c1 c2 co cp ct HP.out).mono ?_); rw [HLG.out]; rintro e w2 ⟨rfl, hb1⟩; replace HX := Lib.hid (HX.out.up hb1); replace HT := Lib.hid (HT.out.below hb1); replace HO := Lib.hid (HO.out.below hb1); replace HTR := Lib.hid (HTR.out.below hb1); replace HP := Lib.hid (HP.out.below hb1); replace HBW := Lib.hid (below_next HBW.out hb1); clear hb1 f0 f1 f2 f3 f4 f5 f6 f7 f8; obtain ⟨f0, f1, f2, f3, f4, f5, f6, f7, f8, _⟩ := bl9 HX.out))
    go_upto_region 4 with fail
    have hK : ∃ K : Nat, K ≤ tr.length ∧ (if (tr.length : Int) < wrap64 n then (tr.length : Int) else wrap64 n) = (K : Int) := by
      have h1 := HN.out
      rw [IntWalk.wrap64_in n (by omega)]
      split
      · exact ⟨tr.length, Nat.le_refl _, rfl⟩
      · exact ⟨n.toNat, by omega, by omega⟩
    obtain ⟨K, hKl, hKe⟩ := hK
    rw [hKe]
    clear hKe
    have HKL : Hid ((tr.take K).length = K) := Lib.hid (by rw [List.length_take]; omega)
    go_upto_region 5 with (go_at_call 6; (with_reducible refine (vy_Check F ps tr A1 A2 O B C c1 c2 co cp ct HT.out HO.out HP.out HTR.out HSZ.out.1.1 HSZ.out.1.2.1 HSZ.out.1.2.2.1 HSZ.out.1.2.2.2 (fun p hp => ⟨HID.out p hp, HSZ.out.2 p hp⟩)).mono ?_); intro e w3 h3; obtain ⟨A3, n3, cp3, x3, rfl, HQ1, hb1⟩ := h3.q; clear h3; replace HX := Lib.hid (HX.out.up hb1); replace HT := Lib.hid (HT.out.below hb1); replace HO := Lib.hid (HO.out.below hb1); replace HTR := Lib.hid (HTR.out.below hb1); replace HP := Lib.hid (HP.out.below hb1); replace HBW := Lib.hid (below_next HBW.out hb1); clear hb1 f0 f1 f2 f3 f4 f5 f6 f7 f8; obtain ⟨f0, f1, f2, f3, f4, f5, f6, f7, f8, _⟩ := bl9 HX.out)
    refine wp_region_mkG 13 r5D (R5G F ps tr A1 A2 O B C c1 c2 co cp ct K w.heap.size) (by kernel_rfl) (by kernel_rfl) (fun i j hi hj h => r5D_inj i hi j hj h) (fun i hi => by have := r5D_lt i hi; simp; omega) (fun i v W W' _ h hb => h.up hb) ?_ ?_
    · intro L ac W xq i hi hst hr K9 hK
      have HXW := Lib.hid (HX.out.up ((below_next (below_drwV w3) hst.below)))
      have HTW := Lib.hid (HT.out.below (below_next (below_drwV w3) hst.below))
      have HOW := Lib.hid (HO.out.below (below_next (below_drwV w3) hst.below))
      have HPW := Lib.hid (HP.out.below (below_next (below_drwV w3) hst.below))
      have HEW := Lib.hid (HTR.out.below (below_next (below_drwV w3) hst.below))
      clear f0 f1 f2 f3 f4 f5 f6 f7 f8
      obtain ⟨f0, f1, f2, f3, f4, f5, f6, f7, f8, _⟩ := bl9 HXW.out
      match i, hi, hr, hK with
      | 0, _, hr, hK =>
        have q2 : ac.tmps.getD 2 undef = .pointer (some ⟨w.heap.size, 0, none⟩) := (hst.old 2 (by decide +kernel)).trans rfl
        clear hst hr
        refine wpOp_at _ rfl rfl ?_
        go_simp
        exact hK _ _ (Below.refl _ _) ⟨fun _ => rfl, fun e => absurd e (by decide), fun e => absurd e (by decide), fun e => absurd e (by decide)⟩
      | 1, _, hr, hK =>
        have s40 : ac.tmps.getD 40 undef = .pointer (some ⟨w.heap.size, 0, none⟩) := (hst.val 0 (by omega) (ready_dep hr (e := ⟨0, .data⟩) rfl (by simp) rfl)).trans ((hst.fact 0 (by omega) (ready_dep hr (e := ⟨0, .data⟩) rfl (by simp) rfl)).r (by decide))
        clear hst hr
        refine wpOp_at _ rfl rfl ?_
        go_simp
        exact hK _ _ (Below.refl _ _) ⟨fun _ => rfl, fun e => absurd e (by decide), fun e => absurd e (by decide), fun e => absurd e (by decide)⟩
      | 2, _, hr, hK =>
        have q2 : ac.tmps.getD 2 undef = .pointer (some ⟨w.heap.size, 0, none⟩) := (hst.old 2 (by decide +kernel)).trans rfl
        clear hst hr
        refine wpOp_at _ rfl rfl ?_
        go_simp
        exact hK _ _ (Below.refl _ _) ⟨fun _ => rfl, fun e => absurd e (by decide), fun e => absurd e (by decide), fun e => absurd e (by decide)⟩
      | 3, _, hr, hK =>
        have s42 : ac.tmps.getD 42 undef = .pointer (some ⟨w.heap.size, 7, none⟩) := (hst.val 2 (by omega) (ready_dep hr (e := ⟨2, .data⟩) rfl (by simp) rfl)).trans ((hst.fact 2 (by omega) (ready_dep hr (e := ⟨2, .data⟩) rfl (by simp) rfl)).r (by decide))
        clear hst hr
        refine wpOp_at _ rfl rfl ?_
        go_simp
        exact hK _ _ (Below.refl _ _) ⟨fun _ => rfl, fun e => absurd e (by decide), fun e => absurd e (by decide), fun e => absurd e (by decide)⟩
      | 4, _, hr, hK =>
        have q2 : ac.tmps.getD 2 undef = .pointer (some ⟨w.heap.size, 0, none⟩) := (hst.old 2 (by decide +kernel)).trans rfl
        clear hst hr
        refine wpOp_at _ rfl rfl ?_
        go_simp
        exact hK _ _ (Below.refl _ _) ⟨fun _ => rfl, fun e => absurd e (by decide), fun e => absurd e (by decide), fun e => absurd e (by decide)⟩
      | 5, _, hr, hK =>
        have s44 : ac.tmps.getD 44 undef = .pointer (some ⟨w.heap.size, 8, none⟩) := (hst.val 4 (by omega) (ready_dep hr (e := ⟨4, .data⟩) rfl (by simp) rfl)).trans ((hst.fact 4 (by omega) (ready_dep hr (e := ⟨4, .data⟩) rfl (by simp) rfl)).r (by decide))
        clear hst hr
        refine wpOp_at _ rfl rfl ?_
        go_simp
        exact hK _ _ (Below.refl _ _) ⟨fun _ => rfl, fun e => absurd e (by decide), fun e => absurd e (by decide), fun e => absurd e (by decide)⟩
      | 6, _, hr, hK =>
        have q5 : ac.tmps.getD 5 undef = .int .i64 (K : Int) := (hst.old 5 (by decide +kernel)).trans rfl
        clear hst hr
        refine wpOp_at _ rfl rfl ?_
        go_simp
        exact hK _ _ (Below.refl _ _) ⟨fun _ => rfl, fun e => absurd e (by decide), fun e => absurd e (by decide), fun e => absurd e (by decide)⟩
      | 7, _, hr, hK =>
        have s45 : ac.tmps.getD 45 undef = .slice C tr.length ct := (hst.val 5 (by omega) (ready_dep hr (e := ⟨5, .data⟩) rfl (by simp) rfl)).trans ((hst.fact 5 (by omega) (ready_dep hr (e := ⟨5, .data⟩) rfl (by simp) rfl)).r (by decide))
        have s46 : ac.tmps.getD 46 undef = .int .i64 (K : Int) := (hst.val 6 (by omega) (ready_dep hr (e := ⟨6, .data⟩) rfl (by simp) rfl)).trans ((hst.fact 6 (by omega) (ready_dep hr (e := ⟨6, .data⟩) rfl (by simp) rfl)).r (by decide))
        clear hst hr
        refine wpOp_at _ rfl rfl ?_
        have hsl := slice_to C tr.length K ct W hKl HCT.out HCM.out
        go_simp
        exact hK _ _ (Below.refl _ _) ⟨fun _ => rfl, fun e => absurd e (by decide), fun e => absurd e (by decide), fun e => absurd e (by decide)⟩
      | 8, _, hr, hK =>
        have s41 : ac.tmps.getD 41 undef = .agg #[.int .i64 F.t.n, .slice A1 F.t.ov.length c1, .slice A2 F.t.ls.length c2, .int .i64 F.det, .int .i64 F.ga, .int .i64 F.ho, .slice O F.out.length co] := (hst.val 1 (by omega) (ready_dep hr (e := ⟨1, .data⟩) rfl (by simp) rfl)).trans ((hst.fact 1 (by omega) (ready_dep hr (e := ⟨1, .data⟩) rfl (by simp) rfl)).r (by decide))
        have s43 : ac.tmps.getD 43 undef = .slice B ps.length cp := (hst.val 3 (by omega) (ready_dep hr (e := ⟨3, .data⟩) rfl (by simp) rfl)).trans ((hst.fact 3 (by omega) (ready_dep hr (e := ⟨3, .data⟩) rfl (by simp) rfl)).r (by decide))
        have s47 : ac.tmps.getD 47 undef = .slice C K ct := (hst.val 7 (by omega) (ready_dep hr (e := ⟨7, .data⟩) rfl (by simp) rfl)).trans ((hst.fact 7 (by omega) (ready_dep hr (e := ⟨7, .data⟩) rfl (by simp) rfl)).r (by decide))
        clear hst hr
        refine wpOp_at _ rfl rfl ?_
        go_simp
        have HC2 := Lib.hid (vy_Check (w := W) F ps (tr.take K) A1 A2 O B C c1 c2 co cp ct HTW.out HOW.out HPW.out (HEW.out.take K) HSZ.out.1.1 HSZ.out.1.2.1 HSZ.out.1.2.2.1 (by rw [List.length_take]; have := HSZ.out.1.2.2.2; omega) (fun p hp => ⟨HID.out p hp, HSZ.out.2 p hp⟩))
        rw [HKL.out] at HC2
        (with_reducible refine HC2.out.mono ?_)
        intro e w4 h4
        obtain ⟨xA, xn, xc, xx, rfl, hq, hb4⟩ := h4.q
        exact hK _ w4 hb4 ⟨fun e => absurd e (by decide), fun _ => ⟨_, _, _, _, rfl, hq.out⟩, fun e => absurd e (by decide), fun e => absurd e (by decide)⟩
      | 9, _, hr, hK =>
        obtain ⟨xA, xn, xc, xx, hv, hq⟩ := (hst.fact 8 (by omega) (ready_dep hr (e := ⟨8, .data⟩) rfl (by simp) rfl)).t (by decide)
        have s48 : ac.tmps.getD 48 undef = .tuple #[.slice xA xn xc, .int .i64 xx] := (hst.val 8 (by omega) (ready_dep hr (e := ⟨8, .data⟩) rfl (by simp) rfl)).trans hv
        have HQ9 := Lib.hid hq
        clear hv hq
        clear hst hr
        refine wpOp_at _ rfl rfl ?_
        go_simp
        exact hK _ _ (Below.refl _ _) ⟨fun e => absurd e (by decide), fun _ => ⟨_, _, _, _, rfl, HQ9.out⟩, fun e => absurd e (by decide), fun e => absurd e (by decide)⟩
      | 10, _, hr, hK =>
        obtain ⟨xA, xn, xc, xx, hv, hq⟩ := (hst.fact 9 (by omega) (ready_dep hr (e := ⟨9, .data⟩) rfl (by simp) rfl)).t (by decide)
        have s39 : ac.tmps.getD 39 undef = .tuple #[.slice xA xn xc, .int .i64 xx] := (hst.val 9 (by omega) (ready_dep hr (e := ⟨9, .data⟩) rfl (by simp) rfl)).trans hv
        have HQ9 := Lib.hid hq
        clear hv hq
        clear hst hr
        refine wpOp_at _ rfl rfl ?_
        go_simp
        exact hK _ _ (Below.refl _ _) ⟨fun e => absurd e (by decide), fun e => absurd e (by decide), fun _ => ⟨_, _, _, _, rfl, HQ9.out⟩, fun e => absurd e (by decide)⟩
      | 11, _, hr, hK =>
        obtain ⟨xA, xn, xc, xx, hv, hq⟩ := (hst.fact 9 (by omega) (ready_dep hr (e := ⟨9, .data⟩) rfl (by simp) rfl)).t (by decide)
        have s39 : ac.tmps.getD 39 undef = .tuple #[.slice xA xn xc, .int .i64 xx] := (hst.val 9 (by omega) (ready_dep hr (e := ⟨9, .data⟩) rfl (by simp) rfl)).trans hv
        have HQ9 := Lib.hid hq
        clear hv hq
        clear hst hr
        refine wpOp_at _ rfl rfl ?_
        go_simp
        exact hK _ _ (Below.refl _ _) ⟨fun e => absurd e (by decide), fun e => absurd e (by decide), fun e => absurd e (by decide), fun _ => ⟨_, _, _, rfl, HQ9.out⟩⟩
      | 12, _, hr, hK =>
        obtain ⟨xA, xn, xc, xx, hv, hq⟩ := (hst.fact 10 (by omega) (ready_dep hr (e := ⟨10, .data⟩) rfl (by simp) rfl)).s (by decide)
        have s49 : ac.tmps.getD 49 undef = .slice xA xn xc := (hst.val 10 (by omega) (ready_dep hr (e := ⟨10, .data⟩) rfl (by simp) rfl)).trans hv
        have HQ9 := Lib.hid hq
        clear hv hq
        clear hst hr
        refine wpOp_at _ rfl rfl ?_
        go_simp
        exact hK _ _ (Below.refl _ _) ⟨fun e => absurd e (by decide), fun e => absurd e (by decide), fun _ => ⟨_, _, _, _, rfl, HQ9.out⟩, fun e => absurd e (by decide)⟩
      | m + 13, hi, _, _ => exact absurd hi (by omega)
    · intro W xs hbl hf
      have hbw := below_next (below_drwV w3) hbl
      have v0 : xs 0 = .pointer (some ⟨w.heap.size, 0, none⟩) := (hf 0 (by omega)).r (by decide)
      have v1 : xs 1 = .agg #[.int .i64 F.t.n, .slice A1 F.t.ov.length c1, .slice A2 F.t.ls.length c2, .int .i64 F.det, .int .i64 F.ga, .int .i64 F.ho, .slice O F.out.length co] := (hf 1 (by omega)).r (by decide)
      have v2 : xs 2 = .pointer (some ⟨w.heap.size, 7, none⟩) := (hf 2 (by omega)).r (by decide)
      have v3 : xs 3 = .slice B ps.length cp := (hf 3 (by omega)).r (by decide)
      have v4 : xs 4 = .pointer (some ⟨w.heap.size, 8, none⟩) := (hf 4 (by omega)).r (by decide)
      have v5 : xs 5 = .slice C tr.length ct := (hf 5 (by omega)).r (by decide)
      have v6 : xs 6 = .int .i64 (K : Int) := (hf 6 (by omega)).r (by decide)
      have v7 : xs 7 = .slice C K ct := (hf 7 (by omega)).r (by decide)
      obtain ⟨B8, n8, d8, x8, v8, _⟩ := (hf 8 (by omega)).t (by decide)
      obtain ⟨B9, n9, d9, x9, v9, _⟩ := (hf 9 (by omega)).t (by decide)
      obtain ⟨B10, n10, d10, x10, v10, _⟩ := (hf 10 (by omega)).s (by decide)
      obtain ⟨B13, n13, x4, v11, hq13⟩ := (hf 11 (by omega)).e (by decide)
      obtain ⟨A4, n4, cp4, x12, v12, hq12⟩ := (hf 12 (by omega)).s (by decide)
      have HQ4 := Lib.hid hq12
      have HQ5 := Lib.hid hq13
      simp only [r5_put, v0, v1, v2, v3, v4, v5, v6, v7, v8, v9, v10, v11, v12, List.setIfInBounds_toArray, List.set_cons_zero, List.set_cons_succ]
      replace HX := Lib.hid (HX.out.up hbw)
      replace HBW := Lib.hid (below_next HBW.out hbw)
      replace HQ1 := Lib.hid (HQ1.out.up hbw)
      clear hq12 hq13 hf hbl hbw f0 f1 f2 f3 f4 f5 f6 f7 f8 HT HO HP HTR v0 v1 v2 v3 v4 v5 v6 v7 v8 v9 v10 v11 v12
      rcases HQ1.out with ⟨hv1, hx1⟩ | ⟨hv1, hx1, la, hna, hla, hra⟩
      · subst hx1
        clear HQ1 HQ4 HQ5
        go_wp2_with fail
        go_ret
        exact ⟨rfl, HBW.out⟩
      · have HV1 := Lib.hid hv1
        have HVT := Lib.hid (vyOk_take hv1 K)
        have hx4 : x4 = 0 := by
          rcases HQ5.out with ⟨hv2, _⟩ | ⟨_, h, _⟩
          · rw [HVT.out] at hv2; cases hv2
          · exact h
        obtain ⟨lc, hnc, hlc, hrc⟩ : ∃ lc : List (Int × Int), n4 = lc.length ∧ Hid (lc = runV F ps (protV F (tr.take K) ps) (downV F) (CkS.new F.t) 0 (tr.take K)) ∧ Rd W A4 (lc.flatMap vioL) := by
          rcases HQ4.out with ⟨hv2, _⟩ | ⟨_, _, l, h1, h2, h3⟩
          · rw [HVT.out] at hv2; cases hv2
          · exact ⟨l, h1, h2, h3⟩
        subst hx1 hx4 hna hnc
        have HRA := Lib.hid hra
        have HRC := Lib.hid hrc
        have HEQ : Hid (la.filter (keepX K) = lc.filter lowV) := Lib.hid (by rw [hla.out, hlc.out]; exact vy_same F ps tr K)
        have hlena : la.length ≤ 1100000 := by
          rw [hla.out, ← runN_all]
          have := runN_le F ps (protV F tr ps) (downV F) tr tr.length (Nat.le_refl _)
          have := HSZ.out.1.2.2.2
          omega
        have hlenc : lc.length ≤ 1100000 := by
          rw [hlc.out, ← runN_all]
          have := runN_le F ps (protV F (tr.take K) ps) (downV F) (tr.take K) (tr.take K).length (Nat.le_refl _)
          have := HSZ.out.1.2.2.2
          have := HKL.out
          omega
        clear HQ1 HQ4 HQ5 hv1 hla hra hlc hrc HVT HV1
        obtain ⟨B1, hB1⟩ : ∃ B1, B1 = W.heap.size := ⟨_, rfl⟩
        have HBB : Hid (Below w.heap.size w W ∧ w.heap.size ≤ B1) := Lib.hid ⟨HBW.out, by rw [hB1]; exact HBW.out.size⟩
        have HRAB := Lib.hid (show ∀ Y, Below B1 W Y → Rd Y A3 (la.flatMap vioL) from fun Y hb => HRA.out.below (by rw [← hB1]; exact hb))
        have HRCB := Lib.hid (show ∀ Y, Below B1 W Y → Rd Y A4 (lc.flatMap vioL) from fun Y hb => HRC.out.below (by rw [← hB1]; exact hb))
        have HS0 : Hid (B1 ≤ W.heap.size) := Lib.hid (by omega)
        clear HRA HRC hB1 HBW HX
        go_wp2_with fail
        go_loopw [10, 61] (fun v i wr => ∃ k : Nat, k ≤ la.length ∧ i = .int .i64 k ∧ Hid (Below B1 W wr) ∧ Hid (B1 ≤ wr.heap.size) ∧ Hid (wr.ownsRow B1 42 2 v ((la.take k).filter (keepX K)).length (((la.take k).filter (keepX K)).flatMap vioL))) (fun _ i _ => la.length - (intOf i).toNat)
        case atStart => exact ⟨0, Nat.zero_le _, rfl, Lib.hid (by (repeat' (first | (with_reducible exact (Below.refl _ _)) | (with_reducible refine Bset ?_ ?_) | (with_reducible refine Bdrw ?_) | (with_reducible refine Bbox ?_ ?_) | omega | (simp; done) | (simp; omega)))), HS0, Lib.hid (World.ownsRow_nil _ _ _ _)⟩
        case round =>
          clear HS0
          obtain ⟨k, hk, rfl, HW, HS, HOW⟩ := hrel
          by_cases hkl : k < la.length
          · have hkl' : (k : Int) < (la.length : Int) := by omega
            obtain ⟨y, hy⟩ : ∃ y, la[k]? = some y := ⟨_, List.getElem?_eq_getElem hkl⟩
            obtain ⟨bz, oz, hAz, hcz⟩ := row_at (s := 2) (fun _ => rfl) (by omega) (HRAB.out wr HW.out) hy
            obtain ⟨y0, y1⟩ := y
            have z0 := hcz 0 (.int .i64 y0) rfl
            have z1 := hcz 1 (.int .i64 y1) rfl
            rw [Nat.add_zero] at z0
            have HFS := Lib.hid (filter_snoc (p := keepX K) hy)
            have HLEN : Hid (((la.take k).filter (keepX K)).length ≤ 100000000) := Lib.hid (by
              have := List.length_filter_le (keepX K) (la.take k)
              rw [List.length_take] at this
              omega)
            clear hcz hy
            subst hAz
            go_upto_region 12 with fail
            obtain ⟨nb, hnb⟩ : ∃ nb, nb = wr.heap.size := ⟨_, rfl⟩
            refine wp_named5 (fun Y => Below B1 W Y ∧ B1 ≤ Y.heap.size ∧ Y.ownsRow B1 42 2 _ ((la.take k).filter (keepX K)).length (((la.take k).filter (keepX K)).flatMap vioL) ∧ Bl 41 nb #[.int .i64 y0, .int .i64 y1] Y) ⟨HW.out.trans ((below_box wr _).mono HS.out), Nat.le_trans HS.out (below_box wr _).size, own_up HOW.out (below_box wr _), by rw [hnb]; exact Bl.new wr _ _⟩ ?_
            rw [← hnb]
            clear hnb HW HS HOW z0 z1
            rintro Y ⟨h1, h2, h3, h4⟩
            have HW := Lib.hid h1
            have HS := Lib.hid h2
            have HOW := Lib.hid h3
            obtain ⟨z0, z1, _⟩ := h4.c2
            clear h1 h2 h3 h4
            by_cases g1 : y1 ≤ 9
            · have d1 : decide (y1 ≤ 9) = true := by simp [g1]
              by_cases g2 : y0 < (K : Int)
              · have d2 : decide (y0 < (K : Int)) = true := by simp [g2]
                have HP1 : Hid (keepX K (y0, y1) = true) := Lib.hid (by simp [keepX, lowV, g1, g2])
                clear g1 g2
                go_wp2_with (at_builtin; (with_reducible refine wpList_vio6 _ y0 y1 B1 _ _ HOW.out HLEN.out HS.out ?_ ?_ ?_); (rfl); (rfl); intro v7 w7 L7 hl7 ho7 hb7 hg7; have HL7 := Lib.hid hl7; have HOZ := Lib.hid ho7; have HWZ := Lib.hid (HW.out.trans hb7); have HSZ7 := Lib.hid (Nat.le_trans HS.out hb7.size); clear hl7 ho7 hb7 hg7 z0 z1)
                go_roundw
                case rel => exact ⟨k + 1, by omega, by go_num, HWZ, HSZ7, by rw [HFS.out, if_pos HP1.out]; have e := HL7.out; unfold SnocV at e; rw [e] at HOZ; exact HOZ⟩
                case measure => simp [intOf]; omega
              · have d2 : decide (y0 < (K : Int)) = false := by simp [g2]
                have HP1 : Hid (keepX K (y0, y1) = false) := Lib.hid (by simp [keepX, g2])
                clear g1 g2
                go_wp2_with fail
                go_roundw
                case rel => exact ⟨k + 1, by omega, by go_num, HW, HS, by rw [HFS.out, HP1.out, if_neg (by simp), List.append_nil]; exact HOW⟩
                case measure => simp [intOf]; omega
            · have d1 : decide (y1 ≤ 9) = false := by simp [g1]
              have HP1 : Hid (keepX K (y0, y1) = false) := Lib.hid (by simp [keepX, lowV, g1])
              clear g1
              go_wp2_with fail
              go_roundw
              case rel => exact ⟨k + 1, by omega, by go_num, HW, HS, by rw [HFS.out, HP1.out, if_neg (by simp), List.append_nil]; exact HOW⟩
              case measure => simp [intOf]; omega
          · obtain rfl : k = la.length := by omega
            rw [List.take_length] at HOW
            obtain ⟨Ax, cx, hvx, _, _, hrx⟩ := rd_of_ownK HOW.out
            subst hvx
            rw [HEQ.out] at hrx ⊢
            obtain ⟨W2, hW2⟩ : ∃ W2, W2 = wr := ⟨_, rfl⟩
            subst hW2
            obtain ⟨B2, hB2⟩ : ∃ B2, B2 = W2.heap.size := ⟨_, rfl⟩
            have HRX := Lib.hid (show ∀ Y, Below B2 W2 Y → Rd Y Ax ((lc.filter lowV).flatMap vioL) from fun Y hb => hrx.below (by rw [← hB2]; exact hb))
            have HRC2 := Lib.hid (show ∀ Y, Below B2 W2 Y → Rd Y A4 (lc.flatMap vioL) from fun Y hb => HRCB.out Y (HW.out.trans (hb.mono (by have := HS.out; omega))))
            have HBB2 := Lib.hid (show ∀ Y, Below B2 W2 Y → Below w.heap.size w Y from fun Y hb => (HBB.out.1.trans (HW.out.mono HBB.out.2)).trans (hb.mono (by have := HS.out; have := HBB.out.2; omega)))
            have HS0 : Hid (B2 ≤ W2.heap.size) := Lib.hid (by omega)
            clear hrx hB2 HW HS HOW HRAB HRCB HBB HEQ
            go_wp2_with fail
            go_loopw [11, 81] (fun v i wr => ∃ k : Nat, k ≤ lc.length ∧ i = .int .i64 k ∧ Hid (Below B2 W2 wr) ∧ Hid (B2 ≤ wr.heap.size) ∧ Hid (wr.ownsRow B2 42 2 v ((lc.take k).filter lowV).length (((lc.take k).filter lowV).flatMap vioL))) (fun _ i _ => lc.length - (intOf i).toNat)
            case atStart => exact ⟨0, Nat.zero_le _, rfl, Lib.hid (by (repeat' (first | (with_reducible exact (Below.refl _ _)) | (with_reducible refine Bset ?_ ?_) | (with_reducible refine Bdrw ?_) | (with_reducible refine Bbox ?_ ?_) | omega | (simp; done) | (simp; omega)))), HS0, Lib.hid (World.ownsRow_nil _ _ _ _)⟩
            case round =>
              clear HS0 hk
              obtain ⟨k, hk, rfl, HW, HS, HOW⟩ := hrel
              by_cases hkl : k < lc.length
              · have hkl' : (k : Int) < (lc.length : Int) := by omega
                obtain ⟨y, hy⟩ : ∃ y, lc[k]? = some y := ⟨_, List.getElem?_eq_getElem hkl⟩
                obtain ⟨bz, oz, hAz, hcz⟩ := row_at (s := 2) (fun _ => rfl) (by omega) (HRC2.out wr HW.out) hy
                obtain ⟨y0, y1⟩ := y
                have z0 := hcz 0 (.int .i64 y0) rfl
                have z1 := hcz 1 (.int .i64 y1) rfl
                rw [Nat.add_zero] at z0
                have HFS := Lib.hid (filter_snoc (p := lowV) hy)
                have HLEN : Hid (((lc.take k).filter lowV).length ≤ 100000000) := Lib.hid (by
                  have := List.length_filter_le lowV (lc.take k)
                  rw [List.length_take] at this
                  omega)
                clear hcz hy
                subst hAz
                go_upto_region 18 with fail
                obtain ⟨nb, hnb⟩ : ∃ nb, nb = wr.heap.size := ⟨_, rfl⟩
                refine wp_named5 (fun Y => Below B2 W2 Y ∧ B2 ≤ Y.heap.size ∧ Y.ownsRow B2 42 2 _ ((lc.take k).filter lowV).length (((lc.take k).filter lowV).flatMap vioL) ∧ Bl 41 nb #[.int .i64 y0, .int .i64 y1] Y) ⟨HW.out.trans ((below_box wr _).mono HS.out), Nat.le_trans HS.out (below_box wr _).size, own_up HOW.out (below_box wr _), by rw [hnb]; exact Bl.new wr _ _⟩ ?_
                rw [← hnb]
                clear hnb HW HS HOW z0 z1
                rintro Y ⟨h1, h2, h3, h4⟩
                have HW := Lib.hid h1
                have HS := Lib.hid h2
                have HOW := Lib.hid h3
                obtain ⟨z0, z1, _⟩ := h4.c2
                clear h1 h2 h3 h4
                by_cases g1 : y1 ≤ 9
                · have d1 : decide (y1 ≤ 9) = true := by simp [g1]
                  have HP1 : Hid (lowV (y0, y1) = true) := Lib.hid (by simp [lowV, g1])
                  clear g1
                  go_wp2_with (at_builtin; (with_reducible refine wpList_vio6 _ y0 y1 B2 _ _ HOW.out HLEN.out HS.out ?_ ?_ ?_); (rfl); (rfl); intro v7 w7 L7 hl7 ho7 hb7 hg7; have HL7 := Lib.hid hl7; have HOZ := Lib.hid ho7; have HWZ := Lib.hid (HW.out.trans hb7); have HSZ7 := Lib.hid (Nat.le_trans HS.out hb7.size); clear hl7 ho7 hb7 hg7 z0 z1)
                  go_roundw
                  case rel => exact ⟨k + 1, by omega, by go_num, HWZ, HSZ7, by rw [HFS.out, if_pos HP1.out]; have e := HL7.out; unfold SnocV at e; rw [e] at HOZ; exact HOZ⟩
                  case measure => simp [intOf]; omega
                · have d1 : decide (y1 ≤ 9) = false := by simp [g1]
                  have HP1 : Hid (lowV (y0, y1) = false) := Lib.hid (by simp [lowV, g1])
                  clear g1
                  go_wp2_with fail
                  go_roundw
                  case rel => exact ⟨k + 1, by omega, by go_num, HW, HS, by rw [HFS.out, HP1.out, if_neg (by simp), List.append_nil]; exact HOW⟩
                  case measure => simp [intOf]; omega
              · obtain rfl : k = lc.length := by omega
                rw [List.take_length] at HOW
                obtain ⟨Ay, cy, hvy, _, _, hry⟩ := rd_of_ownK HOW.out
                subst hvy
                have HSM := Lib.hid (ref56_Same (w := wr) Ax Ay cx cy (lc.filter lowV) (HRX.out wr HW.out) hry (by have := List.length_filter_le lowV lc; omega))
                have HBE := Lib.hid (HBB2.out wr HW.out)
                clear hry
                go_wp2_with (go_at_call 7; (with_reducible refine HSM.out.mono ?_); rintro e w9 ⟨rfl, hb9⟩; have HBF := Lib.hid (below_next HBE.out hb9); clear hb9)
                go_ret
                exact ⟨rfl, HBF.out⟩
end
end Go.Proofs.Ytdnjflpmbnjgeaa
