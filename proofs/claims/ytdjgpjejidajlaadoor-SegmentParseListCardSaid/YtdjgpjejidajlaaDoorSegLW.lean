/-
  waypointref18.TextList, Same, ParseList and segment.ParseList: what each returns.
-/
import Derived.Test.YtdjgpjejidajlaaDoorSegL
import Derived.Test.YtdjgpjejidajlaaDoorRSplit
import Derived.Laws.StructEq
namespace Go.Proofs.YtdjgpjejidajlaaDoor
open Go.RowKit Go.Sort

set_option maxHeartbeats 2000000 in
set_option maxRecDepth 100000 in
theorem ref18_TextList (A : Option Addr) (c : Nat) (l : List (Int × Int)) (w : World) (hL : RdP w A l) (hl : l.length ≤ 100000) :
    Calls Tryd.prog 16 #[.slice A l.length c] w fun e w' => e = .returned (.string ⟨(tlL l).toArray⟩) ∧ Below w.heap.size w w' := by
  have HL := Lib.hid hL
  clear hL
  obtain ⟨V, hV⟩ : ∃ V, V = tlL l := ⟨_, rfl⟩
  rw [← hV]
  have HV := Lib.hid hV
  clear hV
  go_enter Tryd.func16, Tryd.ntmps16
  go_wp2_with fail
  go_loopw [3, 4] (fun v i wr => ∃ (j : Nat) (J : List UInt8), j ≤ l.length ∧ i = .int .i64 j ∧ v = .string ⟨J.toArray⟩ ∧ J.length ≤ 23 * j ∧ Hid (J = Lib.join ((l.take j).map fun p => segT p.1 p.2) [32]) ∧ Hid (∀ p ∈ l.take j, segT p.1 p.2 ≠ []) ∧ Hid (Below w.heap.size w wr)) (fun _ i _ => l.length - (intOf i).toNat)
  case atStart => exact ⟨0, [], Nat.zero_le _, rfl, rfl, Nat.zero_le _, Lib.hid (by simp [Lib.join, List.intercalate]), Lib.hid (by simp), Lib.hid (Below.refl _ _)⟩
  case round =>
    obtain ⟨j, J, hj, rfl, rfl, hJl, HJ, HG, HB⟩ := hrel
    by_cases hlt : j < l.length
    · obtain ⟨b, o, p, rfl, hd, q0, q1⟩ := (HL.out.below HB.out).at_ hlt
      have hlt' : (j : Int) < (l.length : Int) := by omega
      have HD := Lib.hid hd
      clear hd
      obtain ⟨pk, pm⟩ := p
      simp only at q0 q1 HD
      obtain ⟨x, hx⟩ : ∃ x, x = segT pk pm := ⟨_, rfl⟩
      have hC : Hid (∀ w', Calls Tryd.prog 12 #[.agg #[.int .i64 pk, .int .i64 pm]] w' fun e w'' => e = .returned (.string ⟨x.toArray⟩) ∧ Below w'.heap.size w' w'') := Lib.hid fun w' => by
        rw [hx]; exact ref18_Text pk pm w'
      have hxl : x.length ≤ 22 := by rw [hx]; exact segT_len pk pm
      have HX := Lib.hid hx
      clear hx
      by_cases hxn : x = []
      · subst hxn
        have HVV : Hid (V = []) := Lib.hid (by rw [HV.out]; exact tlL_bad HD.out HX.out.symm)
        go_wp2_with (go_at_call 12; refine (hC.out _).mono ?_; rintro e w1 ⟨rfl, hb⟩)
        go_ret
        exact ⟨by rw [HVV.out]; rfl, below_next HB.out hb⟩
      · have hne : x.isEmpty = false := by simpa using hxn
        have hnb : (x == []) = false := by simpa using hxn
        have HG2 : Hid (∀ p ∈ l.take (j + 1), segT p.1 p.2 ≠ []) := Lib.hid (by
          rw [take_next HD.out]
          intro p hp
          rcases List.mem_append.1 hp with h | h
          · exact HG.out p h
          · rw [List.mem_singleton.1 h, ← HX.out]; exact hxn)
        have HTK := Lib.hid (take_next HD.out)
        clear hxn
        by_cases hj0 : j = 0
        · have HJ2 : Hid (x = Lib.join ((l.take (j + 1)).map fun p => segT p.1 p.2) [32]) := Lib.hid (by rw [HTK.out, hj0]; simp [Lib.join, List.intercalate]; exact HX.out)
          obtain rfl : J = [] := List.eq_nil_of_length_eq_zero (by omega)
          have hj1 : (j : Int) ≤ 0 := by omega
          have hxj : x.length ≤ 23 * (j + 1) := by omega
          clear hj0
          have ca : ∀ w', (Op.stringOp .add ⟨#[]⟩ ⟨x.toArray⟩).run Tryd.prog w' = .ok (.string ⟨x.toArray⟩) w' := fun w' => by
            have := run_string_add_lists (P := Tryd.prog) w' [] x (by simp) (by omega)
            simpa using this
          go_wp2_with (go_at_call 12; refine (hC.out _).mono ?_; rintro e w1 ⟨rfl, hb⟩; replace q0 := cell_up hb q0; replace q1 := cell_up hb q1; replace HB := Lib.hid (below_next HB.out hb); clear hb)
          go_roundw
          case rel => exact ⟨j + 1, x, by omega, by go_num, rfl, hxj, HJ2, HG2, HB⟩
          case measure => simp [intOf]; omega
        · have hj0' : (0 : Int) < (j : Int) := by omega
          have HJ2 : Hid (J ++ [32] ++ x = Lib.join ((l.take (j + 1)).map fun p => segT p.1 p.2) [32]) := Lib.hid (by
            rw [HTK.out, List.map_append, List.map_cons, List.map_nil, join_snoc, ← HJ.out, HX.out]
            intro h
            have := congrArg List.length h
            rw [List.length_map, List.length_take, List.length_nil] at this
            omega)
          have ca : ∀ w', (Op.stringOp .add ⟨J.toArray⟩ ⟨#[32]⟩).run Tryd.prog w' = .ok (.string ⟨(J ++ [32]).toArray⟩) w' := fun w' => run_string_add_lists (P := Tryd.prog) w' J [32] (by omega) (by simp)
          have cb : ∀ w', (Op.stringOp .add ⟨(J ++ [32]).toArray⟩ ⟨x.toArray⟩).run Tryd.prog w' = .ok (.string ⟨(J ++ [32] ++ x).toArray⟩) w' := fun w' => run_string_add_lists (P := Tryd.prog) w' (J ++ [32]) x (by simp; omega) (by omega)
          have hJ2l : (J ++ [32] ++ x).length ≤ 23 * (j + 1) := by simp; omega
          generalize J ++ [32] ++ x = J2 at *
          generalize J ++ [32] = J1 at *
          go_wp2_with (go_at_call 12; refine (hC.out _).mono ?_; rintro e w1 ⟨rfl, hb⟩; replace q0 := cell_up hb q0; replace q1 := cell_up hb q1; replace HB := Lib.hid (below_next HB.out hb); clear hb)
          go_roundw
          case rel => exact ⟨j + 1, J2, by omega, by go_num, rfl, hJ2l, HJ2, HG2, HB⟩
          case measure => simp [intOf]; omega
    · obtain rfl : j = l.length := by omega
      rw [List.take_length] at HG HJ
      have HVV : Hid (V = J) := Lib.hid (by rw [HV.out, HJ.out]; exact tlL_good HG.out)
      go_wp2_with fail
      go_ret
      exact ⟨by rw [HVV.out]; rfl, HB.out⟩

theorem seg_neq (k m : Int) (w : World) : (binOp .neq 23 (.agg #[.int .i64 k, .int .i64 m]) (.agg #[.int .i64 k, .int .i64 m])).run Tryd.prog w = .ok (.bool false) w := by
  rw [run_neq_struct, run_equalIn_struct w 9999 23 _ _ (by kernel_rfl) (by kernel_rfl)]
  simp only [Program.fieldsOf, Tryd.underlying23]
  simp [Op.eqFields, go_sem]
theorem RdP.at2 {w : World} {A B : Option Addr} {l : List (Int × Int)} {k : Nat} (h : RdP w A l) (g : RdP w B l) (hk : k < l.length) : ∃ b o b' o' p, A = some ⟨b, o, none⟩ ∧ B = some ⟨b', o', none⟩ ∧ w.cell? ⟨b, o + k * 2, none⟩ = some (.int .i64 (Prod.fst p)) ∧ w.cell? ⟨b, o + k * 2 + 1, none⟩ = some (.int .i64 (Prod.snd p)) ∧ w.cell? ⟨b', o' + k * 2, none⟩ = some (.int .i64 (Prod.fst p)) ∧ w.cell? ⟨b', o' + k * 2 + 1, none⟩ = some (.int .i64 (Prod.snd p)) := by
  obtain ⟨b, o, p, rfl, hd, q0, q1⟩ := h.at_ hk
  obtain ⟨b', o', p', rfl, hd', r0, r1⟩ := g.at_ hk
  rw [hd] at hd'
  injection hd' with hp
  subst hp
  exact ⟨b, o, b', o', p, rfl, rfl, q0, q1, r0, r1⟩

set_option maxHeartbeats 1000000 in
theorem ref18_Same_refl (A B : Option Addr) (c d : Nat) (l : List (Int × Int)) (w : World) (hA : RdP w A l) (hB : RdP w B l) (hm : l.length ≤ 4611686018427387904) :
    Calls Tryd.prog 17 #[.slice A l.length c, .slice B l.length d] w fun e w' => e = .returned (.bool true) ∧ Below w.heap.size w w' := by
  have HA := Lib.hid hA
  have HB := Lib.hid hB
  clear hA hB
  go_enter Tryd.func17, Tryd.ntmps17
  go_wp2_with fail
  go_loopw [5] (fun i wr => ∃ k : Nat, k ≤ l.length ∧ i = .int .i64 k ∧ Hid (Below w.heap.size w wr)) (fun i _ => l.length - (intOf i).toNat)
  case atStart => exact ⟨0, Nat.zero_le _, rfl, Lib.hid (Below.refl _ _)⟩
  case round =>
    obtain ⟨k, hk, rfl, HW⟩ := hrel
    by_cases hlt : k < l.length
    · obtain ⟨b, o, b', o', p, rfl, rfl, q0, q1, r0, r1⟩ := (HA.out.below HW.out).at2 (HB.out.below HW.out) hlt
      have hlt2 : (k : Int) < (l.length : Int) := by omega
      have hn := seg_neq p.1 p.2
      obtain ⟨pk, pm⟩ := p
      simp only at q0 q1 r0 r1 hn
      go_wp2_with fail
      go_quiet (fail)
      go_wp2_with fail
      go_roundw
      case rel => exact ⟨k + 1, by omega, by go_num, Lib.hid (below_drw HW.out _)⟩
      case measure => simp [intOf]; omega
    · obtain rfl : k = l.length := by omega
      go_wp2_with fail
      go_ret
      exact ⟨rfl, HW.out⟩

/-- The cells of a list of pairs. -/
def pcl (l : List (Int × Int)) : List Value := l.flatMap fun p => [.int .i64 p.1, .int .i64 p.2]
theorem pcl_snoc (l : List (Int × Int)) (p : Int × Int) : pcl (l ++ [p]) = pcl l ++ [.int .i64 p.1, .int .i64 p.2] := by simp [pcl]
theorem pcl_len (l : List (Int × Int)) : (pcl l).length = 2 * l.length := by
  induction l with
  | nil => rfl
  | cons p r ih => simp [pcl] at ih ⊢; omega
theorem pcl_at : ∀ (l : List (Int × Int)) (k : Nat) (p : Int × Int), l[k]? = some p → (pcl l)[k * 2]? = some (.int .i64 p.1) ∧ (pcl l)[k * 2 + 1]? = some (.int .i64 p.2)
  | [], k, p, h => by simp at h
  | q :: r, 0, p, h => by simp at h; subst h; exact ⟨rfl, rfl⟩
  | q :: r, k + 1, p, h => by
    have ih := pcl_at r k p (by simpa using h)
    rw [show (k + 1) * 2 = k * 2 + 1 + 1 by omega]
    exact ih
theorem rdp_of_own {w : World} {base : Nat} {E : TypeId} {v : Value} {l : List (Int × Int)} (h : w.ownsRow base E 2 v l.length (pcl l)) : ∃ A c, v = .slice A l.length c ∧ l.length ≤ c ∧ c ≤ maxLen ∧ RdP w A l := by
  rcases h.2 with ⟨hv, h0⟩ | ⟨g, cap, cur, hv, h1, h2, h3, h4, h5⟩
  · have : l = [] := List.eq_nil_of_length_eq_zero h0
    subst this
    exact ⟨none, 0, hv, Nat.le_refl _, Nat.zero_le _, .inl rfl⟩
  · subst hv
    refine ⟨some ⟨g, 0, none⟩, cap, rfl, h3, h4, .inr ⟨g, 0, rfl, fun k p hp => ?_⟩⟩
    have hk : k < l.length := (List.getElem?_eq_some_iff.1 hp).1
    obtain ⟨e1, e2⟩ := pcl_at l k p hp
    constructor
    · rw [Nat.zero_add, h.cellAt (k * 2) (by omega)]; exact e1
    · rw [Nat.zero_add, h.cellAt (k * 2 + 1) (by omega)]; exact e2
/-- A call that returns a list of segments and an error. -/
def RetPE (w : World) (r : List (Int × Int) × Int) (e : Ending) (w' : World) : Prop :=
  ∃ A c, e = .returned (.tuple #[.slice A r.1.length c, .int .i64 r.2]) ∧ r.1.length ≤ c ∧ c ≤ maxLen ∧ RdP w' A r.1 ∧ Below w.heap.size w w'
theorem retPE_of {w w' : World} {base : Nat} {E : TypeId} {v : Value} {r : List (Int × Int) × Int} {l : List (Int × Int)} (hr : r = (l, 0)) (h : w'.ownsRow base E 2 v l.length (pcl l)) (hb : Below w.heap.size w w') : RetPE w r (.returned (.tuple #[v, .int .i64 0])) w' := by
  subst hr
  obtain ⟨A, c, rfl, h1, h2, h3⟩ := rdp_of_own h
  exact ⟨A, c, rfl, h1, h2, h3, hb⟩
theorem retPE_nil {w w' : World} {r : List (Int × Int) × Int} {x : Int} (hr : r = ([], x)) (hb : Below w.heap.size w w') : RetPE w r (.returned (.tuple #[.slice none 0 0, .int .i64 x])) w' := by
  subst hr
  exact ⟨none, 0, rfl, Nat.le_refl _, Nat.zero_le _, .inl rfl, hb⟩
theorem segInfo : (Tryd.prog.info? 23).map (fun i => (i.zero, i.size, i.bytes)) = some (some (.agg #[.int .i64 0, .int .i64 0]), 2, 16) := by kernel_rfl
theorem cell_two' (W : World) (x y : Value) (T : TypeId) : ∀ (j : Nat) (u : Value), [x, y][j]? = some u → (W.alloc (.cells #[x, y] T)).cell? ⟨W.heap.size, 0 + j, none⟩ = some u := by
  intro j u h
  match j, h with
  | 0, h => simp at h; subst h; simp
  | 1, h => simp at h; subst h; simp
  | j + 2, h => simp at h
theorem cell_two1 (w : World) (x y : Value) (t : TypeId) : ∀ j u, [x, y][j]? = some u → (w.alloc (.cells #[x, y] t)).cell? ((⟨w.heap.size, 0, none⟩ : Addr).add j) = some u := by
  intro j u hj
  match j, hj with
  | 0, hj => simp at hj; subst hj; simp [Addr.add]
  | 1, hj => simp at hj; subst hj; simp [Addr.add]
  | j + 2, hj => simp at hj

/-- What the loads of a drawn region read, and what the calls need. -/
theorem cell_two2 (W : World) (x y : Value) (T : TypeId) (g : Nat) (hg : W.heap.size = g) : ∀ (j : Nat) (u : Value), [x, y][j]? = some u → (W.alloc (.cells #[x, y] T)).cell? ((⟨g, 0, none⟩ : Addr).add j) = some u := by
  subst hg; exact cell_two1 W x y T
theorem own_add2 {B : Nat} {E : TypeId} {wr w1 : World} {v : Value} {xs : List Value} {o : Obj} {n : Nat} (hown : wr.ownsRow B E 2 v n xs) (hB : B ≤ wr.heap.size)
    (hg : (wr.alloc o).grownBy w1 v.ownBlock) : Below B wr w1 :=
  ((Below.refl B wr).alloc hB o).grown hg (by simp; omega) (fun k hk => (hown.lt k hk).1)
theorem strs_at {w : World} {A : Option Addr} {ws : List (List UInt8)} {k : Nat} {x : List UInt8} (h : Rd w A (ws.map strW)) (hk : ws[k]? = some x) : ∃ b o, A = some ⟨b, o, none⟩ ∧ w.cell? ⟨b, o + k, none⟩ = some (.string ⟨x.toArray⟩) :=
  h.at_ (u := strW x) (by rw [List.getElem?_map, hk]; rfl)

set_option maxHeartbeats 4000000 in
set_option maxRecDepth 100000 in
theorem ref18_ParseList (s : List UInt8) (hs : s.length ≤ 100000) (w : World) :
    Calls Tryd.prog 18 #[.string ⟨s.toArray⟩] w (RetPE w (parseL s)) := by
  obtain ⟨i0, hi, hz0, hz1, hz2⟩ := info_parts segInfo
  obtain ⟨V, hV⟩ : ∃ V, V = parseL s := ⟨_, rfl⟩
  rw [← hV]
  have HV := Lib.hid hV
  clear hV
  by_cases hn : s = []
  · subst hn
    have HR : Hid (V = ([], 0)) := Lib.hid HV.out
    go_enter Tryd.func18, Tryd.ntmps18
    go_wp2_with fail
    go_ret2
    exact retPE_nil HR.out (Below.refl _ _)
  have hne : s.isEmpty = false := by simpa using hn
  have hnb : (s == []) = false := by simpa using hn
  have HN := Lib.hid hn
  clear hn
  obtain ⟨ws, hws⟩ : ∃ ws, ws = splitK 32 [] s := ⟨_, rfl⟩
  have hwl : ws.length ≤ 100001 := by rw [hws]; have := splitK_len 32 [] s; omega
  have hwx : ∀ x ∈ ws, x.length ≤ 100000 := by rw [hws]; intro x hx; have := splitK_mem hx; omega
  have HWX := Lib.hid hwx
  have ca : ∀ w', (Op.stringOp .add ⟨s.toArray⟩ ⟨#[32]⟩).run Tryd.prog w' = .ok (.string ⟨(s ++ [32]).toArray⟩) w' := fun w' => run_string_add_lists (P := Tryd.prog) w' s [32] (by omega) (by simp)
  have HC : Hid (∀ w', Calls Tryd.prog 35 #[.string ⟨(s ++ [32]).toArray⟩, .int .u8 32] w' (RetSB w' ws true)) := Lib.hid fun w' => by
    have := ref09_Split (s ++ [32]) 32 ws [] (by rw [hws, split_end]) (by simp; omega) w'
    simpa using this
  have HWS := Lib.hid hws
  clear hws hwx
  generalize s ++ [32] = s2 at *
  go_enter Tryd.func18, Tryd.ntmps18
  go_wp2_with (go_at_call 35; refine (HC.out _).mono ?_; rintro e w1 ⟨A, cp, rfl, hc1, hc2, hrd, hb⟩; have HRD := Lib.hid hrd; have HB := Lib.hid hb; have HCC := Lib.hid (And.intro hc1 hc2); clear hrd hb hc1 hc2)
  go_loopw [6, 7] (fun v iv wr => ∃ (j : Nat) (l : List (Int × Int)), j ≤ ws.length ∧ iv = .int .i64 j ∧ l.length = j ∧ Hid (plL (ws.take j) = some l) ∧ Hid (wr.ownsRow w1.heap.size 23 2 v l.length (pcl l)) ∧ Hid (Below w1.heap.size w1 wr)) (fun _ iv _ => ws.length - (intOf iv).toNat)
  case atStart => exact ⟨0, [], Nat.zero_le _, rfl, rfl, Lib.hid rfl, Lib.hid (World.ownsRow_nil _ _ _ _), Lib.hid (Below.refl _ _)⟩
  case round =>
    obtain ⟨j, l, hj, rfl, hlj, HP, HO, HW⟩ := hrel
    have hll : l.length ≤ 100001 := by omega
    have HLJ := Lib.hid hlj
    clear hlj
    by_cases hlt : j < ws.length
    · obtain ⟨x, hx⟩ : ∃ x, ws[j]? = some x := ⟨_, List.getElem?_eq_getElem hlt⟩
      obtain ⟨b, o, rfl, q0⟩ := strs_at (HRD.out.below HW.out) hx
      have hxl : x.length ≤ 100000 := HWX.out x (List.mem_of_getElem? hx)
      have hlt' : (j : Int) < (ws.length : Int) := by omega
      have HX := Lib.hid hx
      clear hx
      cases hp : pSeg x with
      | none =>
        have HVV : Hid (V = ([], 3)) := Lib.hid (by rw [HV.out]; exact parseL_none HN.out (by rw [← HWS.out]; exact plL_bad hp (List.mem_of_getElem? HX.out)))
        have HC2 : Hid (∀ w', Calls Tryd.prog 13 #[.string ⟨x.toArray⟩] w' fun e w'' => e = .returned (.tuple #[.agg #[.int .i64 0, .int .i64 0], .int .i64 3]) ∧ Below w'.heap.size w' w'') := Lib.hid fun w' => by
          refine (ref18_Parse x hxl w').mono ?_
          rintro e w'' ⟨k, m, er, rfl, hr, hb⟩
          obtain ⟨rfl, rfl, rfl⟩ := segR_none hr hp
          exact ⟨rfl, hb⟩
        clear hp
        go_wp2_with (go_at_call 13; refine (HC2.out _).mono ?_; rintro e w2 ⟨rfl, hb⟩; replace HW := Lib.hid (below_next HW.out hb); clear hb)
        go_ret2
        exact retPE_nil HVV.out (below_next (below_next HB.out HW.out) (below_box _ _))
      | some p =>
        obtain ⟨pk, pm⟩ := p
        have HP2 : Hid (plL (ws.take (j + 1)) = some (l ++ [(pk, pm)])) := Lib.hid (by
          obtain ⟨hjl, hxe⟩ := List.getElem?_eq_some_iff.1 HX.out
          rw [List.take_succ_eq_append_getElem hjl, hxe]
          exact plL_snoc hp HP.out)
        have HC2 : Hid (∀ w', Calls Tryd.prog 13 #[.string ⟨x.toArray⟩] w' fun e w'' => e = .returned (.tuple #[.agg #[.int .i64 pk, .int .i64 pm], .int .i64 0]) ∧ Below w'.heap.size w' w'') := Lib.hid fun w' => by
          refine (ref18_Parse x hxl w').mono ?_
          rintro e w'' ⟨k, m, er, rfl, hr, hb⟩
          obtain ⟨rfl, rfl, rfl⟩ := segR_some hr hp
          exact ⟨rfl, hb⟩
        clear hp
        go_wp2_with (first | (go_at_call 13; refine (HC2.out _).mono ?_; rintro e w2 ⟨rfl, hb⟩; replace HO := Lib.hid (own_up HO.out hb); replace HW := Lib.hid (below_next HW.out hb); clear hb q0; have hsz := HW.out.size) | (at_builtin; refine wpList_append_own _ rfl _ _ 31 rfl w1.heap.size 23 i0 (.agg #[.int .i64 0, .int .i64 0]) 2 16 Tryd.underlying31 hi hz0 hz1 hz2 rfl (by decide) _ _ _ rfl ((HO.out.alloc _).alloc _) ⟨_, 0, none⟩ 1 1 [.int .i64 pk, .int .i64 pm] rfl rfl (cell_two2 _ _ _ _ _ (by simp)) ?_ ?_ ?_ ?_ ?_))
        · intro u hu; simp at hu; rcases hu with rfl | rfl <;> rfl
        · unfold maxLen; omega
        · omega
        · simp; omega
        · intro v' w3 hown' hgrow _
          have HO2 : Hid (w3.ownsRow w1.heap.size 23 2 v' (l ++ [(pk, pm)]).length (pcl (l ++ [(pk, pm)]))) := Lib.hid (by
            rw [pcl_snoc, List.length_append]; exact hown')
          have HW2 : Hid (Below w1.heap.size w1 w3) := Lib.hid (((HW.out.alloc hsz _).alloc (by simp; omega) _).grown hgrow (by simp; omega) (fun k hk => (HO.out.lt k hk).1))
          have HLJ2 : Hid ((l ++ [(pk, pm)]).length = j + 1) := Lib.hid (by rw [List.length_append, HLJ.out]; rfl)
          clear hown' hgrow HO HW hsz
          go_wp2_with fail
          go_roundw
          case rel => exact ⟨j + 1, l ++ [(pk, pm)], by omega, by go_num, HLJ2.out, HP2, HO2, HW2⟩
          case measure => simp [intOf]; omega
    · obtain rfl : j = ws.length := by omega
      rw [List.take_length, HWS.out] at HP
      have HVV : Hid (V = (l, 0)) := Lib.hid (by rw [HV.out]; exact parseL_some HN.out HP.out)
      go_wp2_with fail
      go_ret2
      exact retPE_of HVV.out HO.out (below_next HB.out HW.out)

end Go.Proofs.YtdjgpjejidajlaaDoor
