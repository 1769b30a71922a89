/-
  The names of a configuration: slices.Concat, waypointref15's index, keywords, Name and names.
  slices.Concat of two lists of strings; waypointref15.names.
-/
import Derived.Test.YtpofbhaipeiegaaGreatDoorCfgU
import Derived.Test.YtpofbhaipeiegaaGreatDoorApp
import Derived.Lib.AppendZeros
namespace Go.Proofs.YtpofbhaipeiegaaGreatDoor
set_option linter.unusedSimpArgs false
set_option linter.unusedVariables false
open Go.RowKit Go.Shelf Go.Sort

theorem idxS_ge (x : List UInt8) : ∀ (l : List (List UInt8)) (k : Nat), decide (0 ≤ idxS l x k) = decide (x ∈ l)
  | [], _ => by simp [idxS]
  | y :: r, k => by
    by_cases e : x = y
    · subst e; simp [idxS]
    · rw [idxS, if_neg e, idxS_ge x r (k + 1)]; simp [e]
theorem rd_take {w : World} {A : Option Addr} {xs : List Value} (h : Rd w A xs) (k : Nat) : Rd w A (xs.take k) := by
  rcases h with rfl | ⟨b, o, rfl, hc⟩
  · exact .inl (by simp)
  · refine .inr ⟨b, o, rfl, fun j u hu => hc j u ?_⟩
    rw [List.getElem?_take] at hu
    split at hu
    · exact hu
    · cases hu
theorem ref15_index (A : Option Addr) (cc n : Nat) (xs : List (List UInt8)) (hn : xs.length = n) (x : List UInt8) (w : World) (hA : Rd w A (xs.map strW)) (hm : xs.length ≤ 100000) : Calls Tryz.prog 80 #[.slice A n cc, .string ⟨x.toArray⟩] w fun e w' => e = .returned (.int .i64 (idxS xs x 0)) ∧ w = w' := by
  subst hn
  obtain ⟨V, hV⟩ : ∃ V, V = idxS xs x 0 := ⟨_, rfl⟩
  rw [← hV]
  have HV := Lib.hid hV
  have HA := Lib.hid hA
  clear hV hA
  go_enter Tryz.func80, Tryz.ntmps80
  go_wp2
  go_loop [5] (fun i => ∃ k : Nat, k ≤ xs.length ∧ i = .int .i64 k ∧ Hid (V = idxS (xs.drop k) x k)) (fun i => xs.length - (intOf i).toNat)
  case atStart => exact ⟨0, Nat.zero_le _, rfl, HV⟩
  case round =>
    clear HV
    obtain ⟨k, hk, rfl, HV⟩ := hrel
    by_cases hlt : k < xs.length
    · have hlt' : (k : Int) < (xs.length : Int) := by omega
      obtain ⟨b, o, y, rfl, hy, q0⟩ := strs_here HA.out hlt
      have HY := Lib.hid hy
      clear hy
      cases hp : (y == x) with
      | true =>
        have e : y = x := by simpa using hp
        subst e
        have HR : Hid (V = (k : Int)) := Lib.hid (HV.out.trans (idxS_hit HY.out))
        go_wp2
        go_ret
        exact ⟨by rw [HR.out]; rfl, rfl⟩
      | false =>
        have HR := Lib.hid (HV.out.trans (idxS_miss HY.out (by rw [beq_eq_false_iff_ne] at hp ⊢; exact fun e => hp e.symm)))
        go_wp2
        go_round
        case rel => exact ⟨k + 1, by omega, by go_num, HR⟩
        case measure => simp [intOf]; omega
    · obtain rfl : k = xs.length := by omega
      have HR : Hid (V = -1) := Lib.hid (by rw [HV.out, List.drop_length]; rfl)
      go_wp2
      go_ret
      exact ⟨by rw [HR.out]; rfl, rfl⟩
theorem ref15_keywords (w : World) : Calls Tryz.prog 107 #[] w fun e w' => e = .returned (.slice (some ⟨w.heap.size, 0, none⟩) keysS.length 20) ∧ Rd w' (some ⟨w.heap.size, 0, none⟩) (keysS.map strW) ∧ Below w.heap.size w w' ∧ w.heap.size < w'.heap.size := by
  go_enter Tryz.func107, Tryz.ntmps107
  go_wp2
  go_ret
  refine ⟨rfl, .inr ⟨_, _, rfl, ?_⟩, below_box _ _, by simp⟩
  intro i v hv
  rw [Nat.zero_add, Lib.cell_of_heap (heap_alloc_new w _)]
  simpa [keysS, kNode, kLink, kLet, kPrefix, kPolicy, kDemand, kTimer, kOverload, kFrom, kTo, kCost, kBack, kCapacity, kDelay, kGroup, kAt, kAmount, kPriority, kAny, kBind, strW] using hv
theorem named_alt (x : List UInt8) : namedB x = (decide (1 ≤ x.length) && (decide (x.length ≤ 16) && (!keyB x && (headB x && x.all chB)))) := by
  cases x with
  | nil => rfl
  | cons c r =>
    rw [decide_eq_true (show 1 ≤ (c :: r).length by simp), namedB]
    generalize headB (c :: r) = a
    generalize decide ((c :: r).length ≤ 16) = b
    generalize (c :: r).all chB = d
    generalize keyB (c :: r) = e
    cases a <;> cases b <;> cases d <;> cases e <;> rfl
set_option maxHeartbeats 8000000 in
set_option maxRecDepth 100000 in
theorem ref15_Name (x : List UInt8) (hx : x.length ≤ 100000) (w : World) : Calls Tryz.prog 79 #[.string ⟨x.toArray⟩] w fun e w' => e = .returned (.bool (namedB x)) ∧ Below w.heap.size w w' := by
  rw [named_alt]
  obtain ⟨V, hV⟩ : ∃ V, V = (decide (1 ≤ x.length) && (decide (x.length ≤ 16) && (!keyB x && (headB x && x.all chB)))) := ⟨_, rfl⟩
  rw [← hV]
  have HV := Lib.hid hV
  clear hV
  have hbw := Below.refl w.heap.size w
  have HBW := Lib.hid hbw
  clear hbw
  by_cases h0 : (x.length : Int) < 1
  · have HR : Hid (V = false) := Lib.hid (by rw [HV.out, decide_eq_false (show ¬ 1 ≤ x.length by omega)]; rfl)
    go_enter Tryz.func79, Tryz.ntmps79
    go_wp2
    go_ret
    exact ⟨by rw [HR.out]; rfl, HBW.out⟩
  by_cases h16 : (16 : Int) < (x.length : Int)
  · have HR : Hid (V = false) := Lib.hid (by rw [HV.out, decide_eq_false (show ¬ x.length ≤ 16 by omega)]; simp)
    go_enter Tryz.func79, Tryz.ntmps79
    go_wp2
    go_ret
    exact ⟨by rw [HR.out]; rfl, HBW.out⟩
  have hkb := idxS_ge x keysS 0
  have HKW := Lib.hid (fun W => ref15_keywords W)
  have HIX := Lib.hid (fun (A : Option Addr) W hr => ref15_index A 20 keysS.length keysS rfl x W hr (by decide))
  generalize idxS keysS x 0 = ii at hkb HIX
  have HVA : Hid (V = (!keyB x && (headB x && x.all chB))) := Lib.hid (by rw [HV.out, decide_eq_true (show 1 ≤ x.length by omega), decide_eq_true (show x.length ≤ 16 by omega)]; rfl)
  clear HV
  cases hk : keyB x with
  | true =>
    have HR : Hid (V = false) := Lib.hid (by rw [HVA.out, hk]; rfl)
    have hi : 0 ≤ ii := by have h2 : decide (x ∈ keysS) = true := hk; rw [h2] at hkb; exact of_decide_eq_true hkb
    clear hk hkb HVA
    go_enter Tryz.func79, Tryz.ntmps79
    go_wp2_with (first | (go_at_call 107; (with_reducible refine (HKW.out _).mono ?_); rintro e w1 ⟨rfl, hr1, hb1, hlt1⟩; replace HBW := Lib.hid hb1; have HR1 := Lib.hid hr1; clear hr1 hb1 hlt1) | (go_at_call 80; (with_reducible refine (HIX.out _ _ HR1.out).mono ?_); rintro e w2 ⟨rfl, rfl⟩))
    go_ret
    exact ⟨by rw [HR.out]; rfl, HBW.out⟩
  | false =>
  have HVB : Hid (V = (headB x && x.all chB)) := Lib.hid (by rw [HVA.out, hk]; rfl)
  have hi : ¬ 0 ≤ ii := by have h2 : decide (x ∈ keysS) = false := hk; rw [h2] at hkb; exact of_decide_eq_false hkb
  clear hk hkb HVA
  go_enter Tryz.func79, Tryz.ntmps79
  go_wp2_with (first | (go_at_call 107; (with_reducible refine (HKW.out _).mono ?_); rintro e w1 ⟨rfl, hr1, hb1, hlt1⟩; replace HBW := Lib.hid hb1; have HR1 := Lib.hid hr1; clear hr1 hb1 hlt1) | (go_at_call 80; (with_reducible refine (HIX.out _ _ HR1.out).mono ?_); rintro e w2 ⟨rfl, rfl⟩))
  clear HIX HKW HR1
  have hx1 : 1 ≤ x.length := by omega
  go_loopw [3] (fun i wr => ∃ k : Nat, k ≤ x.length ∧ i = .int .i64 k ∧ Hid ((x.take k).all chB = true ∧ (0 < k → headB x = true)) ∧ Hid (Below w.heap.size w wr)) (fun i _ => x.length - (intOf i).toNat)
  case atStart => exact ⟨0, Nat.zero_le _, rfl, Lib.hid ⟨rfl, fun h => absurd h (Nat.lt_irrefl 0)⟩, HBW⟩
  case round =>
    clear HBW
    obtain ⟨k, hk, rfl, HD, HB0⟩ := hrel
    by_cases hlt : k < x.length
    · have hlt' : (k : Int) < (x.length : Int) := by omega
      obtain ⟨b, hb⟩ : ∃ b, x[k]? = some b := ⟨_, List.getElem?_eq_getElem hlt⟩
      have hb2 := byte_get hb hlt
      have HB := Lib.hid hb
      clear hb
      have key : ∀ t : Bool, chB b = t → (t = true → Hid ((x.take (k + 1)).all chB = true)) ∧ (t = false → Hid (V = false)) := by
        intro t ht
        subst ht
        refine ⟨fun h => Lib.hid (by rw [all_take HB.out, HD.out.1, h]; rfl), fun h => Lib.hid (by rw [HVB.out, all_bad HB.out h]; simp)⟩
      have KEY := Lib.hid key
      have HH0 : Hid (k = 0 → headB x = (decide (97 ≤ b.toNat) && decide (b.toNat ≤ 122))) := Lib.hid fun e => by
        subst e
        cases x with
        | nil => simp at hlt
        | cons c l => have := HB.out; simp at this; subst this; rfl
      clear key
      have cases5 : (97 ≤ b.toNat ∧ b.toNat ≤ 122) ∨ (¬ (97 ≤ b.toNat ∧ b.toNat ≤ 122) ∧ ((48 ≤ b.toNat ∧ b.toNat ≤ 57) ∨ b.toNat = 95)) ∨ (¬ (97 ≤ b.toNat ∧ b.toNat ≤ 122) ∧ ¬ (48 ≤ b.toNat ∧ b.toNat ≤ 57) ∧ ¬ b.toNat = 95) := by omega
      have hbx := HB0.out
      rcases cases5 with ⟨c1, c2⟩ | ⟨c1, c2⟩ | ⟨c1, c2, c3⟩
      · have HN := (KEY.out true (by unfold chB; rw [decide_eq_true c1, decide_eq_true c2]; rfl)).1 rfl
        have HHN : Hid (headB x = true) := Lib.hid (by
          by_cases e : k = 0
          · rw [HH0.out e, decide_eq_true c1, decide_eq_true c2]; rfl
          · exact HD.out.2 (by omega))
        have i1 : decide ((97 : Int) ≤ (b.toNat : Int)) = true := decide_eq_true (by omega)
        have i2 : decide ((b.toNat : Int) ≤ 122) = true := decide_eq_true (by omega)
        have i3 : decide ((48 : Int) ≤ (b.toNat : Int)) = true := decide_eq_true (by omega)
        have i4 : decide ((b.toNat : Int) ≤ 57) = false := decide_eq_false (by omega)
        have i5 : ((b.toNat : Int) == 95) = false := by rw [beq_eq_false_iff_ne]; omega
        clear c1 c2 KEY
        go_wp2_with fail
        refine wp_region_quiet_below (by kernel_rfl) (by kernel_rfl) ?_
        repeat (go_big_quiet_step (fail))
        refine wpQuiet_nil ?_
        intro W2 hb4
        replace hb4 := below_of_regrown hb4
        replace HB0 := Lib.hid (below_next hbx hb4)
        clear hbx hb4
        go_wp2_with fail
        go_roundw
        case rel => exact ⟨k + 1, by omega, by go_num, Lib.hid ⟨HN.out, fun _ => HHN.out⟩, HB0⟩
        case measure => simp [intOf]; omega
      · have HN := (KEY.out true (by unfold chB; rcases c2 with c2 | c2; (· rw [decide_eq_true c2.1, decide_eq_true c2.2]; simp); (· rw [decide_eq_true c2]; simp))).1 rfl
        have HHF : Hid (k = 0 → V = false) := Lib.hid fun e => by
          rw [HVB.out, HH0.out e]
          have : (decide (97 ≤ b.toNat) && decide (b.toNat ≤ 122)) = false := by
            rw [Bool.and_eq_false_iff]
            by_cases h : 97 ≤ b.toNat
            · right; exact decide_eq_false (fun h2 => c1 ⟨h, h2⟩)
            · left; exact decide_eq_false h
          rw [this]; rfl
        have HC := Lib.hid (And.intro c1 c2)
        clear c1 c2 KEY
        have cs : (decide ((97 : Int) ≤ (b.toNat : Int)) = false ∧ decide ((48 : Int) ≤ (b.toNat : Int)) = true ∧ decide ((b.toNat : Int) ≤ 57) = true ∧ ((b.toNat : Int) == 95) = false) ∨ (decide ((97 : Int) ≤ (b.toNat : Int)) = false ∧ decide ((48 : Int) ≤ (b.toNat : Int)) = true ∧ decide ((b.toNat : Int) ≤ 57) = false ∧ ((b.toNat : Int) == 95) = true) := by
          have h1 := HC.out.1
          rcases HC.out.2 with h | h
          · exact .inl ⟨decide_eq_false (by omega), decide_eq_true (by omega), decide_eq_true (by omega), by rw [beq_eq_false_iff_ne]; omega⟩
          · exact .inr ⟨decide_eq_false (by omega), decide_eq_true (by omega), decide_eq_false (by omega), by rw [beq_iff_eq]; omega⟩
        by_cases hk0 : k = 0
        · have HVF : Hid (V = false) := Lib.hid (HHF.out hk0)
          subst hk0
          rcases cs with ⟨i1, i3, i4, i5⟩ | ⟨i1, i3, i4, i5⟩
          · go_wp2_with fail
            refine wp_region_quiet_below (by kernel_rfl) (by kernel_rfl) ?_
            repeat (go_big_quiet_step (fail))
            refine wpQuiet_nil ?_
            intro W2 hb4
            replace hb4 := below_of_regrown hb4
            replace HB0 := Lib.hid (below_next hbx hb4)
            clear hbx hb4
            go_wp2_with fail
            go_ret
            exact ⟨by rw [HVF.out]; rfl, HB0.out⟩
          · go_wp2_with fail
            refine wp_region_quiet_below (by kernel_rfl) (by kernel_rfl) ?_
            repeat (go_big_quiet_step (fail))
            refine wpQuiet_nil ?_
            intro W2 hb4
            replace hb4 := below_of_regrown hb4
            replace HB0 := Lib.hid (below_next hbx hb4)
            clear hbx hb4
            go_wp2_with fail
            go_ret
            exact ⟨by rw [HVF.out]; rfl, HB0.out⟩
        · have hk0i : ((k : Int) == 0) = false := by rw [beq_eq_false_iff_ne]; omega
          have HHN := Lib.hid (HD.out.2 (by omega))
          rcases cs with ⟨i1, i3, i4, i5⟩ | ⟨i1, i3, i4, i5⟩
          · go_wp2_with fail
            refine wp_region_quiet_below (by kernel_rfl) (by kernel_rfl) ?_
            repeat (go_big_quiet_step (fail))
            refine wpQuiet_nil ?_
            intro W2 hb4
            replace hb4 := below_of_regrown hb4
            replace HB0 := Lib.hid (below_next hbx hb4)
            clear hbx hb4
            go_wp2_with fail
            go_roundw
            case rel => exact ⟨k + 1, by omega, by go_num, Lib.hid ⟨HN.out, fun _ => HHN.out⟩, HB0⟩
            case measure => simp [intOf]; omega
          · go_wp2_with fail
            refine wp_region_quiet_below (by kernel_rfl) (by kernel_rfl) ?_
            repeat (go_big_quiet_step (fail))
            refine wpQuiet_nil ?_
            intro W2 hb4
            replace hb4 := below_of_regrown hb4
            replace HB0 := Lib.hid (below_next hbx hb4)
            clear hbx hb4
            go_wp2_with fail
            go_roundw
            case rel => exact ⟨k + 1, by omega, by go_num, Lib.hid ⟨HN.out, fun _ => HHN.out⟩, HB0⟩
            case measure => simp [intOf]; omega
      · have HF := (KEY.out false (by
          unfold chB
          rw [decide_eq_false c3]
          by_cases h1 : 97 ≤ b.toNat
          · rw [decide_eq_false (show ¬ b.toNat ≤ 122 from fun h => c1 ⟨h1, h⟩)]
            rw [decide_eq_false (show ¬ b.toNat ≤ 57 by omega)]; simp
          · rw [decide_eq_false h1]
            by_cases h2 : 48 ≤ b.toNat
            · rw [decide_eq_false (show ¬ b.toNat ≤ 57 from fun h => c2 ⟨h2, h⟩)]; simp
            · rw [decide_eq_false h2]; simp)).2 rfl
        have i5 : ((b.toNat : Int) == 95) = false := by rw [beq_eq_false_iff_ne]; omega
        have cs : (decide ((97 : Int) ≤ (b.toNat : Int)) = true ∧ decide ((b.toNat : Int) ≤ 122) = false ∧ decide ((48 : Int) ≤ (b.toNat : Int)) = true ∧ decide ((b.toNat : Int) ≤ 57) = false) ∨ (decide ((97 : Int) ≤ (b.toNat : Int)) = false ∧ decide ((48 : Int) ≤ (b.toNat : Int)) = true ∧ decide ((b.toNat : Int) ≤ 57) = false) ∨ (decide ((97 : Int) ≤ (b.toNat : Int)) = false ∧ decide ((48 : Int) ≤ (b.toNat : Int)) = false) := by
          simp only [decide_eq_true_eq, decide_eq_false_iff_not]
          omega
        clear c1 c2 c3 KEY
        have hk0 : k = 0 ∨ ((k : Int) == 0) = false := by
          by_cases e : k = 0
          · left; exact e
          · right; rw [beq_eq_false_iff_ne]; omega
        rcases cs with ⟨i1, i2, i3, i4⟩ | ⟨i1, i3, i4⟩ | ⟨i1, i3⟩ <;> rcases hk0 with rfl | hk0
        all_goals
          go_wp2_with fail
          refine wp_region_quiet_below (by kernel_rfl) (by kernel_rfl) ?_
          repeat (go_big_quiet_step (fail))
          refine wpQuiet_nil ?_
          intro W2 hb4
          replace hb4 := below_of_regrown hb4
          replace HB0 := Lib.hid (below_next hbx hb4)
          clear hbx hb4
          go_wp2_with fail
          go_ret
          exact ⟨by rw [HF.out]; rfl, HB0.out⟩
    · obtain rfl : k = x.length := by omega
      have HF : Hid (V = true) := Lib.hid (by rw [HVB.out, HD.out.2 (by omega)]; have := HD.out.1; rw [List.take_length] at this; rw [this]; rfl)
      go_wp2_with fail
      go_ret
      exact ⟨by rw [HF.out]; rfl, HB0.out⟩

theorem named_long {x : List UInt8} (h : 16 < x.length) : namedB x = false := by
  unfold namedB
  rw [decide_eq_false (show ¬ x.length ≤ 16 by omega)]
  simp
theorem ref15_Name_any (x : List UInt8) (w : World) : Calls Tryz.prog 79 #[.string ⟨x.toArray⟩] w fun e w' => e = .returned (.bool (namedB x)) ∧ Below w.heap.size w w' := by
  by_cases h : x.length ≤ 100000
  · exact ref15_Name x h w
  · rw [named_long (by omega)]
    have h1 : ¬ (x.length : Int) < 1 := by omega
    have h2 : (16 : Int) < (x.length : Int) := by omega
    have HB := Lib.hid (Below.refl w.heap.size w)
    clear h
    go_enter Tryz.func79, Tryz.ntmps79
    go_wp2
    go_ret
    exact ⟨rfl, HB.out⟩
theorem cfg_named_any (x : List UInt8) (w : World) : Calls Tryz.prog 36 #[.string ⟨x.toArray⟩] w fun e w' => e = .returned (.bool (namedB x)) ∧ w = w' := by
  by_cases h : x.length ≤ 100000
  · exact cfg_named x h w
  · rw [named_long (by omega)]
    have h0b : (x == []) = false := by cases x with | nil => simp at h | cons a b => rfl
    have h2 : (16 : Int) < (x.length : Int) := by omega
    clear h
    go_enter Tryz.func36, Tryz.ntmps36
    go_wp2
    go_ret
    exact ⟨rfl, rfl⟩

def nmK : List (List UInt8) → List (List UInt8) → Bool
  | _, [] => true
  | seen, x :: r => namedB x && (!decide (x ∈ seen) && nmK (seen ++ [x]) r)
def namesB (l : List (List UInt8)) : Bool := nmK [] l
theorem nmK_step {l : List (List UInt8)} {k : Nat} (hk : k < l.length) : nmK (l.take k) (l.drop k) = (namedB l[k] && (!decide (l[k] ∈ l.take k) && nmK (l.take (k + 1)) (l.drop (k + 1)))) := by
  rw [List.drop_eq_getElem_cons hk, List.take_succ_eq_append_getElem hk]
  rfl

set_option maxRecDepth 100000 in
theorem slices_Grow0 (n : Nat) (hn : n ≤ 1000000) (w : World) : Calls Tryz.prog 74 #[.slice none 0 0, .int .i64 n] w fun e w' => ∃ v, e = .returned v ∧ w'.ownsRow w.heap.size 9 1 v 0 [] ∧ Below w.heap.size w w' := by
  by_cases h0 : n = 0
  · subst h0
    go_enter Tryz.func74, Tryz.ntmps74
    go_wp2
    go_ret
    exact ⟨_, rfl, World.ownsRow_nil _ _ _ _, Below.refl _ _⟩
  · obtain ⟨i0, hi, hz0, hz1, hz2⟩ := info_parts strInfo'
    have hr : ∀ ty, (Builtin.append_ #[27, 3] ty #[.slice none 0 0, .int .i64 (n : Int)]).run Tryz.prog w = _ := fun ty =>
      Lib.run_append_nil_zeros w 27 3 ty 9 i0 _ .i64 .i64 Tryz.underlying27 Tryz.underlying3 hi hz0 n (by omega) (by rw [hz1]; decide) (by omega) (by rw [hz2]; omega)
    have hg1 := grownCap_ge w n 0 9
    have hg2 := grownCap_le_maxLen w n 0 9 (by unfold maxLen; omega)
    have hn0 : (0 : Int) < (n : Int) := by omega
    obtain ⟨G, hG⟩ : ∃ G, G = grownCap w n 0 9 := ⟨_, rfl⟩
    rw [← hG] at hr hg1 hg2
    clear hG
    unfold maxLen at hg2
    go_enter Tryz.func74, Tryz.ntmps74
    go_wp2_with (at_builtin; refine Lib.wpList_append_run _ rfl _ _ _ _ rfl _ _ rfl rfl _ _ (hr _) ?_)
    go_ret
    refine ⟨_, rfl, ⟨rfl, .inr ⟨w.heap.size, G, _, rfl, Nat.le_refl _, heap_alloc_new w.drew _, Nat.zero_le _, by unfold maxLen; omega, ?_, by simp⟩⟩, below_next (below_drw2 w) (below_box w.drew _)⟩
    simp [size_zeroCells, Value.cells]; omega

end Go.Proofs.YtpofbhaipeiegaaGreatDoor
namespace Go.Proofs.YtpofbhaipeiegaaGreatDoor
set_option linter.unusedSimpArgs false
set_option linter.unusedVariables false
open Go.RowKit Go.Shelf Go.Sort

theorem below_grownOwn {w wr w' : World} {B s n : Nat} {E : TypeId} {v : Value} {xs : List Value} (h : Below B w wr) (hB : B ≤ w.heap.size) (ho : wr.ownsRow B E s v n xs) (hg : wr.grownBy w' v.ownBlock) : Below B w w' :=
  h.trans ⟨hg.os, hg.tape, hg.output, hg.size, fun k hk => hg.block k (by have := h.size; omega) (fun e => by have := ho.lt k e.symm; omega)⟩
def cat2 {α : Type} (xs ys : List α) : Nat → List α
  | 0 => []
  | 1 => xs
  | _ => xs ++ ys
theorem strW_one (xs : List (List UInt8)) : ∀ u ∈ xs.map strW, u.oneCell' = true := by
  intro u hu
  obtain ⟨x, _, rfl⟩ := List.mem_map.1 hu
  rfl
set_option maxHeartbeats 4000000 in
set_option maxRecDepth 100000 in
theorem slices_Concat2 (B : Nat) (A1 A2 : Option Addr) (c1 c2 : Nat) (xs ys : List (List UInt8)) (w : World) (h0 : w.cell? ⟨B, 0, none⟩ = some (.slice A1 xs.length c1)) (h1 : w.cell? ⟨B, 1, none⟩ = some (.slice A2 ys.length c2)) (hx : Rd w A1 (xs.map strW)) (hy : Rd w A2 (ys.map strW)) (hxl : xs.length ≤ 100000) (hyl : ys.length ≤ 100000) :
    Calls Tryz.prog 35 #[.slice (some ⟨B, 0, none⟩) 2 2] w fun e w' => ∃ v, e = .returned v ∧ w'.ownsRow w.heap.size 9 1 v (xs ++ ys).length ((xs ++ ys).map strW) ∧ Below w.heap.size w w' := by
  obtain ⟨i0, hi, hz0, hz1, hz2⟩ := info_parts strInfo'
  have H0 := Lib.hid h0
  have H1 := Lib.hid h1
  have HX := Lib.hid hx
  have HY := Lib.hid hy
  have hb0 := Below.refl w.heap.size w
  have HB := Lib.hid hb0
  clear h0 h1 hx hy hb0
  go_enter Tryz.func35, Tryz.ntmps35
  go_wp2_with fail
  go_loopw [3, 11] (fun s i wr => ∃ k : Nat, k ≤ 2 ∧ i = .int .i64 k ∧ s = .int .i64 ((cat2 xs ys k).length : Int) ∧ w = wr) (fun _ i _ => 2 - (intOf i).toNat)
  case atStart => exact ⟨0, by omega, rfl, rfl, rfl⟩
  case round =>
    obtain ⟨k, hk, rfl, rfl, rfl⟩ := hrel
    have h0 := H0.out
    have h1 := H1.out
    have ks : k = 0 ∨ k = 1 ∨ k = 2 := by omega
    rcases ks with rfl | rfl | rfl
    · simp only [cat2, List.length_nil]
      go_wp2_with fail
      go_roundw
      case rel => exact ⟨1, by omega, by go_num, by simp [cat2], by first | rfl | trivial⟩
      case measure => simp [intOf]
    · simp only [cat2]
      go_wp2_with fail
      go_roundw
      case rel => exact ⟨2, by omega, by go_num, by simp [cat2], by first | rfl | trivial⟩
      case measure => simp [intOf]
    · obtain ⟨m, hm⟩ : ∃ m, m = (xs ++ ys).length := ⟨_, rfl⟩
      have hml : m ≤ 1000000 := by rw [hm, List.length_append]; omega
      simp only [cat2]
      rw [← hm]
      have HM := Lib.hid hm
      clear hm h0 h1
      go_wp2_with (go_at_call 74; refine (slices_Grow0 m hml _).mono ?_; rintro e w1 ⟨v1, rfl, ho1, hb1⟩)
      have HO := Lib.hid ho1
      have HB1 := Lib.hid hb1
      clear ho1 hb1
      go_loopw [6, 27] (fun v i wr => ∃ k : Nat, k ≤ 2 ∧ i = .int .i64 k ∧ Hid (wr.ownsRow w.heap.size 9 1 v (cat2 xs ys k).length ((cat2 xs ys k).map strW)) ∧ Hid (Below w.heap.size w wr)) (fun _ i _ => 2 - (intOf i).toNat)
      case atStart => exact ⟨0, by omega, rfl, HO, HB1⟩
      case round =>
        clear HO HB1
        obtain ⟨k, hk, rfl, HO, HB1⟩ := hrel
        have h0 := cell_up HB1.out H0.out
        have h1 := cell_up HB1.out H1.out
        have hws : w.heap.size ≤ wr.heap.size := HB1.out.size
        have ks : k = 0 ∨ k = 1 ∨ k = 2 := by omega
        rcases ks with rfl | rfl | rfl
        · go_wp2_with (at_builtin; refine wpList_app_rows _ rfl _ _ 27 rfl w.heap.size 9 i0 (.string ⟨#[]⟩) 16 Tryz.underlying27 hi hz0 1 (by decide) hz1 hz2 rfl _ _ _ rfl HO.out A1 xs.length c1 (xs.map strW) rfl (by simp) (HX.out.below HB1.out) (strW_one xs) ?c4 ?c5 ?c6 ?_)
          case c4 => simp [cat2]; unfold maxLen; omega
          case c5 => simp [cat2]; omega
          case c6 => exact hws
          intro v' w2 ho hg
          have HO2 := Lib.hid ho
          have HB2 := Lib.hid (below_grownOwn HB1.out (Nat.le_refl _) HO.out hg)
          clear ho hg
          go_wp2_with fail
          go_roundw
          case rel => exact ⟨1, by omega, by go_num, Lib.hid (by have := HO2.out; simpa [cat2] using this), HB2⟩
          case measure => simp [intOf]
        · go_wp2_with (at_builtin; refine wpList_app_rows _ rfl _ _ 27 rfl w.heap.size 9 i0 (.string ⟨#[]⟩) 16 Tryz.underlying27 hi hz0 1 (by decide) hz1 hz2 rfl _ _ _ rfl HO.out A2 ys.length c2 (ys.map strW) rfl (by simp) (HY.out.below HB1.out) (strW_one ys) ?c4 ?c5 ?c6 ?_)
          case c4 => simp [cat2]; unfold maxLen; omega
          case c5 => simp [cat2]; omega
          case c6 => exact hws
          intro v' w2 ho hg
          have HO2 := Lib.hid ho
          have HB2 := Lib.hid (below_grownOwn HB1.out (Nat.le_refl _) HO.out hg)
          clear ho hg
          go_wp2_with fail
          go_roundw
          case rel => exact ⟨2, by omega, by go_num, Lib.hid (by have := HO2.out; simpa [cat2] using this), HB2⟩
          case measure => simp [intOf]
        · go_wp2_with fail
          go_ret
          exact ⟨_, rfl, HO.out, HB1.out⟩

set_option maxHeartbeats 4000000 in
set_option maxRecDepth 100000 in
theorem ref15_names (A : Option Addr) (cc : Nat) (l : List (List UInt8)) (hlc : l.length ≤ cc) (hcc : cc ≤ maxLen) (w : World) (hA : Rd w A (l.map strW)) (hm : l.length ≤ 100000) :
    Calls Tryz.prog 42 #[.slice A l.length cc] w fun e w' => e = .returned (.bool (namesB l)) ∧ Below w.heap.size w w' := by
  unfold maxLen at hcc
  obtain ⟨V, hV⟩ : ∃ V, V = namesB l := ⟨_, rfl⟩
  rw [← hV]
  have HV : Hid (V = nmK (l.take 0) (l.drop 0)) := Lib.hid hV
  have HA := Lib.hid hA
  have hb0 := Below.refl w.heap.size w
  have HB := Lib.hid hb0
  clear hV hA hb0
  go_enter Tryz.func42, Tryz.ntmps42
  go_wp2_with fail
  go_loopw [3] (fun i wr => ∃ k : Nat, k ≤ l.length ∧ i = .int .i64 k ∧ Hid (V = nmK (l.take k) (l.drop k)) ∧ Hid (Below w.heap.size w wr)) (fun i _ => l.length - (intOf i).toNat)
  case atStart => exact ⟨0, Nat.zero_le _, rfl, HV, HB⟩
  case round =>
    clear HV HB
    obtain ⟨k, hk, rfl, HV, HB⟩ := hrel
    by_cases hlt : k < l.length
    · obtain ⟨b, o, h1, d0⟩ := (HA.out.below HB.out).at_ (k := k) (u := strW l[k]) (by simp [List.getElem?_eq_getElem hlt])
      have HST := Lib.hid (HV.out.trans (nmK_step hlt))
      have hAT := rd_take (HA.out.below HB.out) k
      rw [← List.map_take] at hAT
      have hTL : (l.take k).length = k := List.length_take_of_le (by omega)
      generalize l.take k = T at HST hAT hTL
      subst h1
      generalize l[k] = y at d0 HST
      obtain ⟨q1, z1⟩ : ∃ q, namedB y = q := ⟨_, rfl⟩
      obtain ⟨q2, z2⟩ : ∃ q, decide (y ∈ T) = q := ⟨_, rfl⟩
      have HD : Hid (V = (q1 && (!q2 && nmK (l.take (k + 1)) (l.drop (k + 1))))) := Lib.hid (by rw [HST.out, z1, z2])
      have HNM : Hid (∀ W, Calls Tryz.prog 79 #[.string ⟨y.toArray⟩] W fun e W' => e = .returned (.bool q1) ∧ Below W.heap.size W W') := Lib.hid fun W => by rw [← z1]; exact ref15_Name_any y W
      have hge := idxS_ge y T 0
      rw [z2] at hge
      have HIX : Hid (∀ d os, Calls Tryz.prog 80 #[.slice (some ⟨b, o, none⟩) k cc, .string ⟨y.toArray⟩] (grow (redrawn wr d) os) fun e w'' => e = .returned (.int .i64 (idxS T y 0)) ∧ ∃ p : Regrown, w'' = grow (redrawn wr p.d) p.os) := Lib.hid fun d os => Calls.regrown_of ((ref15_index _ cc k T hTL y _ (hAT.below (below_regrown wr d os)) (by omega)).mono (by rintro e w9 ⟨rfl, rfl⟩; exact ⟨rfl, Below.refl _ _⟩))
      generalize idxS T y 0 = ii at hge HIX
      unfold strW at d0
      have hbx := HB.out
      clear z1 z2 HST hAT hTL HV
      cases q1 with
      | false =>
        have HVF : Hid (V = false) := Lib.hid (HD.out.trans (by simp))
        go_wp2_with fail
        have kq_d0 := cell_regrown d0
        refine wp_region_quiet_below (by kernel_rfl) (by kernel_rfl) ?_
        repeat (go_big_quiet_step (first | with_reducible exact Calls.regrown_of (HNM.out _) | with_reducible exact HIX.out _ _))
        refine wpQuiet_nil ?_
        intro w2 hb2
        replace hb2 := below_of_regrown hb2
        clear kq_d0
        replace d0 := cell_up hb2 d0
        replace HB := Lib.hid (below_next hbx hb2)
        clear hbx hb2
        go_wp2_with fail
        go_ret
        exact ⟨by rw [HVF.out]; rfl, HB.out⟩
      | true =>
        cases q2 with
        | true =>
          have HVF : Hid (V = false) := Lib.hid (HD.out.trans (by simp))
          go_wp2_with fail
          have kq_d0 := cell_regrown d0
          refine wp_region_quiet_below (by kernel_rfl) (by kernel_rfl) ?_
          repeat (go_big_quiet_step (first | with_reducible exact Calls.regrown_of (HNM.out _) | with_reducible exact HIX.out _ _))
          refine wpQuiet_nil ?_
          intro w2 hb2
          replace hb2 := below_of_regrown hb2
          clear kq_d0
          replace d0 := cell_up hb2 d0
          replace HB := Lib.hid (below_next hbx hb2)
          clear hbx hb2
          go_wp2_with fail
          go_ret
          exact ⟨by rw [HVF.out]; rfl, HB.out⟩
        | false =>
          go_wp2_with fail
          have kq_d0 := cell_regrown d0
          refine wp_region_quiet_below (by kernel_rfl) (by kernel_rfl) ?_
          repeat (go_big_quiet_step (first | with_reducible exact Calls.regrown_of (HNM.out _) | with_reducible exact HIX.out _ _))
          refine wpQuiet_nil ?_
          intro w2 hb2
          replace hb2 := below_of_regrown hb2
          clear kq_d0
          replace d0 := cell_up hb2 d0
          replace HB := Lib.hid (below_next hbx hb2)
          clear hbx hb2
          go_wp2_with fail
          go_roundw
          case rel => exact ⟨k + 1, by omega, by go_num, Lib.hid (HD.out.trans (by simp)), HB⟩
          case measure => simp [intOf]; omega
    · obtain rfl : k = l.length := by omega
      have HVT : Hid (V = true) := Lib.hid (HV.out.trans (by simp [nmK]))
      go_wp2_with fail
      go_ret
      exact ⟨by rw [HVT.out]; rfl, HB.out⟩

end Go.Proofs.YtpofbhaipeiegaaGreatDoor
