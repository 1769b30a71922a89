/-
  config's parser: factor (printed by gen_cfgi.py).
-/
import Derived.Test.YtpofbhaipeiegaaGreatDoorCfgH
namespace Go.Proofs.YtpofbhaipeiegaaGreatDoor
set_option linter.unusedSimpArgs false
set_option linter.unusedVariables false
open Go.RowKit Go.Shelf Go.Sort

theorem factorS_use {dry : Bool} {sy : SymS} {ws ops : List (List UInt8)} {vs : List Int} (h1 : (peekS ws == oOpen) = false) (h2 : (peekS ws == oMinus) = false) (h3 : digitsB (peekS ws) = false) : factorS dry sy ws ops vs = (match useS dry sy 3 ws with | .ok (v, r) => .ok ((ops, v :: vs), r) | .error e => .error e) := by
  cases ws with
  | nil => rfl
  | cons w r =>
    simp only [peekS, List.headD_cons, beq_eq_false_iff_ne] at h1 h2 h3
    simp only [factorS]
    rw [if_neg h1, if_neg h2, if_neg (by rw [h3]; decide)]
    cases useS dry sy 3 (w :: r) with
    | ok p => rfl
    | error e => rfl
theorem useS_in {dry : Bool} {sy : SymS} {kd v : Int} {ws r : List (List UInt8)} (hs : ∀ x ∈ sy, inI x.2.2) (h : useS dry sy kd ws = .ok (v, r)) : inI v := by
  have hl : ∀ (sy : SymS) w x, lookS sy w = some x → ∃ y ∈ sy, y.2 = x := by
    intro sy w x
    induction sy with
    | nil => intro h; cases h
    | cons z t ih =>
      intro h
      obtain ⟨n, u⟩ := z
      unfold lookS at h
      split at h
      · injection h with h; exact ⟨(n, u), by simp, h⟩
      · obtain ⟨y, hy, e⟩ := ih h; exact ⟨y, by simp [hy], e⟩
  cases ws with
  | nil => cases h
  | cons w t =>
    simp only [useS] at h
    split at h
    · cases hu : useOf dry kd (lookS sy w) with
      | error e => rw [hu] at h; cases h
      | ok v' =>
        rw [hu] at h
        injection h with h
        injection h with h _
        subst h
        unfold useOf at hu
        split at hu
        · split at hu
          · injection hu with hu; subst hu; unfold inI; omega
          · cases hu
        · rename_i kk vv hl2
          split at hu
          · injection hu with hu
            subst hu
            obtain ⟨y, hy, e⟩ := hl _ _ _ hl2
            have := hs y hy
            rw [e] at this
            exact this
          · cases hu
    · cases h
theorem useS_rest {dry : Bool} {sy : SymS} {kd v : Int} {ws r : List (List UInt8)} (h : useS dry sy kd ws = .ok (v, r)) : ∃ x, ws = x :: r := by
  cases ws with
  | nil => cases h
  | cons w t =>
    simp only [useS] at h
    split at h
    · cases hu : useOf dry kd (lookS sy w) with
      | error e => rw [hu] at h; cases h
      | ok v' =>
        rw [hu] at h
        injection h with h
        injection h with _ h
        exact ⟨w, by rw [h]⟩
    · cases h
theorem LoP.ofN {pb stb : Nat} {A B : World} (h : LoN pb A B) (hs : stb ≤ A.heap.size) : LoP stb [pb] A B := LoP.weak h hs
theorem LoP.ofZ {pb stb : Nat} {A B : World} (h : LoP stb [] A B) : LoP stb [pb] A B := h.mono (by simp)
section
variable {stb pb : Nat} {k : List Value} {A : Option Addr} {cw : Nat} {all : List (List UInt8)} {dry : Bool} {sb : Nat} {sy : SymS} {rest : List (List UInt8)} {W : World}
set_option maxHeartbeats 16000000 in
set_option maxRecDepth 100000 in
theorem cfg_factor {ops : List (List UInt8)} {vs : List Int} {Av Ao : Option Addr} {cv co : Nat} (hp : PS pb k A cw all dry sb sy rest W) (hB : PB stb pb A sb) (h : SK stb ops vs Av cv Ao co W) (hs : ∀ x ∈ sy, inI x.2.2) (hm : ops.length + rest.length ≤ 100000 ∧ vs.length ≤ 100000) :
    Calls Tryz.prog 111 #[.pointer (some ⟨pb, 0, none⟩), .pointer (some ⟨stb, 0, none⟩)] W (RetF stb pb k A cw all dry sb sy W (factorS dry sy rest ops vs)) := by
  obtain ⟨V, hV⟩ : ∃ V, V = factorS dry sy rest ops vs := ⟨_, rfl⟩
  rw [← hV]
  obtain ⟨i0, hi, hz0, hz1, hz2⟩ := info_parts strInfo'
  obtain ⟨j0, hj, hj0, hj1, hj2⟩ := info_parts intInfo
  have HV := Lib.hid hV
  have HS := Lib.hid h
  have HP := Lib.hid hp
  have HB := Lib.hid hB
  have HSY := Lib.hid hs
  have HM0 := Lib.hid hm
  clear hV h hp hB hs hm
  go_enter Tryz.func111, Tryz.ntmps111
  go_wp2
  go_loopw [] (fun wr => ∃ (os ws : List (List UInt8)) (us : List Int) (Av1 : Option Addr) (cv1 : Nat) (Ao1 : Option Addr) (co1 : Nat), Hid (PS pb k A cw all dry sb sy ws wr) ∧ Hid (SK stb os us Av1 cv1 Ao1 co1 wr) ∧ Hid (LoP stb [pb] W wr) ∧ Hid (V = factorS dry sy ws os us) ∧ Hid (os.length + ws.length ≤ 100000 ∧ us.length ≤ 100000)) (fun wr => leftOf pb all.length wr)
  case atStart => exact ⟨_, _, _, _, _, _, _, HP, HS, Lib.hid (LoP.refl _ _ _), HV, HM0⟩
  case round =>
    clear HS HV HP HM0
    obtain ⟨os, ws, us, Av1, cv1, Ao1, co1, HP, HS, HL, HV, HM⟩ := hrel
    have HZ := Lib.hid (Nat.le_of_lt HS.out.lt)
    by_cases c1 : peekS ws = oOpen
    · obtain ⟨r, rfl⟩ : ∃ r, ws = oOpen :: r := by
        cases ws with | nil => cases c1 | cons w r => exact ⟨r, by rw [show w = oOpen from c1]⟩
      have HR : Hid (V = factorS dry sy r (oOpen :: os) us) := Lib.hid (by rw [HV.out]; simp only [factorS]; rw [if_pos trivial])
      have HM' : Hid ((oOpen :: os).length + r.length ≤ 100000 ∧ us.length ≤ 100000) := Lib.hid (by have := HM.out; simp at this ⊢; omega)
      have HA := Lib.hid (cfg_accept_yes (w := [40]) (r := r) HP.out)
      have HMS : Hid (leftOf pb all.length wr = r.length + 1) := Lib.hid HP.out.left
      clear c1 HV
      go_wp2_with (first | (go_at_call 88; (with_reducible refine HA.out.mono ?_); rintro e w1 ⟨rfl, hp1, hl1⟩; have HP1 := Lib.hid hp1; have HS1 := Lib.hid (HS.out.loN hl1 HB.out.p); have HL1 := Lib.hid (HL.out.trans (LoP.ofN hl1 HZ.out)); obtain ⟨b0, b1, bf⟩ := HS1.out.cells; clear hp1 hl1) | (at_builtin; refine wpList_append_lies _ rfl _ _ 27 rfl (stb + 1) 9 i0 (.string ⟨#[]⟩) 1 16 Tryz.underlying27 hi hz0 hz1 hz2 rfl (by decide) _ _ _ rfl (HS1.out.ho.alloc _) ⟨_, 0, none⟩ 1 1 [.string ⟨#[40]⟩] rfl rfl (cell_one_new _ _ _) (by intro u hu; simp at hu; subst hu; rfl) (by decide) (by have := HM.out; unfold maxLen; omega) (by have := HM.out; omega) (by have := HS1.out.lt; simp; omega) _ rfl ?_; intro gg cap W9 ap1 ap2 ap3 ap4; obtain ⟨p1, p2, p3, p4⟩ := HS1.out.opush ap1 ap2; have P1 := Lib.hid p1; have P2 := Lib.hid p2; clear p1 p2 ap1 ap2 ap3 ap4))
      go_roundw
      case rel => exact ⟨_, _, _, _, _, _, _, Lib.hid (HP1.out.onB HB.out P2.out), P1, Lib.hid (HL1.out.trans (LoP.ofZ P2.out)), HR, HM'⟩
      case measure =>
        rw [HMS.out, (HP1.out.onB HB.out P2.out).left]
        omega
    have c1' : (peekS ws == oOpen) = false := by simpa using c1
    have HA1 := Lib.hid (cfg_accept_no (w := [40]) HP.out c1')
    by_cases c2 : peekS ws = oMinus
    · obtain ⟨r, rfl⟩ : ∃ r, ws = oMinus :: r := by
        cases ws with | nil => cases c2 | cons w r => exact ⟨r, by rw [show w = oMinus from c2]⟩
      have HR : Hid (V = factorS dry sy r (oNeg :: os) us) := Lib.hid (by rw [HV.out]; simp only [factorS]; rw [if_neg (by decide), if_pos trivial])
      have HM' : Hid ((oNeg :: os).length + r.length ≤ 100000 ∧ us.length ≤ 100000) := Lib.hid (by have := HM.out; simp at this ⊢; omega)
      have HMS : Hid (leftOf pb all.length wr = r.length + 1) := Lib.hid HP.out.left
      clear c1 c1' c2 HV
      go_wp2_with (first | (go_at_call 88; (with_reducible refine HA1.out.mono ?_); rintro e w0 ⟨rfl, hb0⟩; have HP0 := Lib.hid (HP.out.up hb0); have HS0 := Lib.hid (HS.out.loN (HP.out.up_lo hb0) HB.out.p); have HL0 := Lib.hid (HL.out.trans (LoP.ofN (HP.out.up_lo hb0) HZ.out)); have HZ0 := Lib.hid (Nat.le_of_lt HS0.out.lt); clear hb0) | (go_at_call 88; (with_reducible refine (cfg_accept_yes (w := [45]) (r := r) HP0.out).mono ?_); rintro e w1 ⟨rfl, hp1, hl1⟩; have HP1 := Lib.hid hp1; have HS1 := Lib.hid (HS0.out.loN hl1 HB.out.p); have HL1 := Lib.hid (HL0.out.trans (LoP.ofN hl1 HZ0.out)); obtain ⟨b0, b1, bf⟩ := HS1.out.cells; clear hp1 hl1) | (at_builtin; refine wpList_append_lies _ rfl _ _ 27 rfl (stb + 1) 9 i0 (.string ⟨#[]⟩) 1 16 Tryz.underlying27 hi hz0 hz1 hz2 rfl (by decide) _ _ _ rfl (HS1.out.ho.alloc _) ⟨_, 0, none⟩ 1 1 [.string ⟨#[110, 101, 103, 97, 116, 105, 111, 110]⟩] rfl rfl (cell_one_new _ _ _) (by intro u hu; simp at hu; subst hu; rfl) (by decide) (by have := HM.out; unfold maxLen; omega) (by have := HM.out; omega) (by have := HS1.out.lt; simp; omega) _ rfl ?_; intro gg cap W9 ap1 ap2 ap3 ap4; obtain ⟨p1, p2, p3, p4⟩ := HS1.out.opush ap1 ap2; have P1 := Lib.hid p1; have P2 := Lib.hid p2; clear p1 p2 ap1 ap2 ap3 ap4))
      go_roundw
      case rel => exact ⟨_, _, _, _, _, _, _, Lib.hid (HP1.out.onB HB.out P2.out), P1, Lib.hid (HL1.out.trans (LoP.ofZ P2.out)), HR, HM'⟩
      case measure =>
        rw [HMS.out, (HP1.out.onB HB.out P2.out).left]
        omega
    have c2' : (peekS ws == oMinus) = false := by simpa using c2
    have HC1 := Lib.hid c1'
    have HC2 : Hid ((peekS ws == [45]) = false) := Lib.hid c2'
    clear c1 c1' c2 c2'
    cases hdg : digitsB (peekS ws) with
    | true =>
      obtain ⟨w, r, rfl⟩ : ∃ w r, ws = w :: r := by
        cases ws with | nil => cases hdg | cons w r => exact ⟨w, r, rfl⟩
      have hdg' : digitsB w = true := hdg
      have hwl := HP.out.wl.2
      obtain ⟨a1, a2⟩ := digits_atoi hdg'
      obtain ⟨v, hv⟩ : ∃ v, v = atoiS w := ⟨_, rfl⟩
      rw [← hv] at a1 a2
      have HR : Hid (V = .ok ((os, v :: us), r)) := Lib.hid (by
        rw [HV.out, hv]
        simp only [factorS]
        rw [if_neg (by simpa [peekS] using HC1.out), if_neg (by have := HC2.out; simpa [peekS, oMinus] using this), if_pos hdg'])
      have HD : Hid (∀ w9, Calls Tryz.prog 124 #[.string ⟨w.toArray⟩] w9 fun e w' => e = .returned (.bool true) ∧ w9 = w') := Lib.hid (by rw [← hdg']; exact fun w9 => cfg_digits w (by omega) w9)
      have HAT := Lib.hid (fun w9 => atoi_ok w v a1 (by omega) w9)
      have HVI := Lib.hid a2
      clear hdg hdg' a1 a2 hv HV
      go_wp2_with (first | (go_at_call 88; (with_reducible refine HA1.out.mono ?_); rintro e w0 ⟨rfl, hb0⟩; have HP0 := Lib.hid (HP.out.up hb0); have HS0 := Lib.hid (HS.out.loN (HP.out.up_lo hb0) HB.out.p); have HL0 := Lib.hid (HL.out.trans (LoP.ofN (HP.out.up_lo hb0) HZ.out)); have HZ0 := Lib.hid (Nat.le_of_lt HS0.out.lt); clear hb0) | (go_at_call 88; (with_reducible refine (cfg_accept_no (w := [45]) HP0.out HC2.out).mono ?_); rintro e w1 ⟨rfl, hb1⟩; have HP1 := Lib.hid (HP0.out.up hb1); have HS1 := Lib.hid (HS0.out.loN (HP0.out.up_lo hb1) HB.out.p); have HL1 := Lib.hid (HL0.out.trans (LoP.ofN (HP0.out.up_lo hb1) HZ0.out)); have HZ1 := Lib.hid (Nat.le_of_lt HS1.out.lt); clear hb1) | (go_at_call 92; (with_reducible refine (cfg_peek HP1.out).mono ?_); rintro e w2 ⟨rfl, hb2⟩; simp only [peekS, List.headD_cons]; have HP2 := Lib.hid (HP1.out.up hb2); have HS2 := Lib.hid (HS1.out.loN (HP1.out.up_lo hb2) HB.out.p); have HL2 := Lib.hid (HL1.out.trans (LoP.ofN (HP1.out.up_lo hb2) HZ1.out)); have HZ2 := Lib.hid (Nat.le_of_lt HS2.out.lt); clear hb2) | (go_at_call 124; (with_reducible refine (HD.out _).mono ?_); rintro e w3 ⟨rfl, rfl⟩) | (go_at_call 93; (with_reducible refine (cfg_next HP2.out).mono ?_); rintro e w4 ⟨rfl, hp4, hl4⟩; simp only [encS]; have HP4 := Lib.hid hp4; have HS4 := Lib.hid (HS2.out.loN hl4 HB.out.p); have HL4 := Lib.hid (HL2.out.trans (LoP.ofN hl4 HZ2.out)); have HZ4 := Lib.hid (Nat.le_of_lt HS4.out.lt); clear hp4 hl4) | (go_at_call 115; (with_reducible refine (HAT.out _).mono ?_); rintro e w5 ⟨rfl, hb5⟩; have HP5 := Lib.hid (HP4.out.up hb5); have HS5 := Lib.hid (HS4.out.loN (HP4.out.up_lo hb5) HB.out.p); have HL5 := Lib.hid (HL4.out.trans (LoP.ofN (HP4.out.up_lo hb5) HZ4.out)); obtain ⟨b0, b1, bf⟩ := HS5.out.cells; clear hb5) | (at_builtin; refine wpList_append_lies _ rfl _ _ 155 rfl (stb + 1) 3 j0 (.int .i64 0) 1 8 Tryz.underlying155 hj hj0 hj1 hj2 rfl (by decide) _ _ _ rfl (HS5.out.hv.alloc _) ⟨_, 0, none⟩ 1 1 [.int .i64 v] rfl rfl (cell_one_new _ _ _) (by intro u hu; simp at hu; subst hu; rfl) (by decide) (by have := HM.out; unfold maxLen; omega) (by have := HM.out; omega) (by have := HS5.out.lt; simp; omega) _ rfl ?_; intro gg cap W9 ap1 ap2 ap3 ap4; obtain ⟨p1, p2, p3, p4⟩ := HS5.out.vpush HVI.out ap1 ap2; have P1 := Lib.hid p1; have P2 := Lib.hid p2; clear p1 p2 ap1 ap2 ap3 ap4))
      go_end0
      rw [HR.out]
      exact ⟨rfl, HP5.out.onB HB.out P2.out, HL5.out.trans (LoP.ofZ P2.out), _, _, _, _, P1.out⟩
    | false =>
      have hpl : (peekS ws).length ≤ 100000 := by
        cases ws with
        | nil => simp [peekS]
        | cons w r => have := HP.out.wl.2; simp only [peekS, List.headD_cons]; omega
      have HD : Hid (∀ w9, Calls Tryz.prog 124 #[.string ⟨(peekS ws).toArray⟩] w9 fun e w' => e = .returned (.bool false) ∧ w9 = w') := Lib.hid (by rw [← hdg]; exact fun w9 => cfg_digits _ hpl w9)
      have HE := Lib.hid (HV.out.trans (factorS_use HC1.out HC2.out hdg))
      have HU := Lib.hid (fun w9 (h : PS pb k A cw all dry sb sy ws w9) => cfg_use h 3)
      obtain ⟨U, hU⟩ : ∃ U, U = useS dry sy 3 ws := ⟨_, rfl⟩
      rw [← hU] at HU HE
      have HUE := Lib.hid hU
      clear hpl hdg HV hU
      cases U with
      | error c =>
        have HR : Hid (V = .error c) := Lib.hid HE.out
        clear HE
        go_wp2_with (first | (go_at_call 88; (with_reducible refine HA1.out.mono ?_); rintro e w0 ⟨rfl, hb0⟩; have HP0 := Lib.hid (HP.out.up hb0); have HS0 := Lib.hid (HS.out.loN (HP.out.up_lo hb0) HB.out.p); have HL0 := Lib.hid (HL.out.trans (LoP.ofN (HP.out.up_lo hb0) HZ.out)); have HZ0 := Lib.hid (Nat.le_of_lt HS0.out.lt); clear hb0) | (go_at_call 88; (with_reducible refine (cfg_accept_no (w := [45]) HP0.out HC2.out).mono ?_); rintro e w1 ⟨rfl, hb1⟩; have HP1 := Lib.hid (HP0.out.up hb1); have HS1 := Lib.hid (HS0.out.loN (HP0.out.up_lo hb1) HB.out.p); have HL1 := Lib.hid (HL0.out.trans (LoP.ofN (HP0.out.up_lo hb1) HZ0.out)); have HZ1 := Lib.hid (Nat.le_of_lt HS1.out.lt); clear hb1) | (go_at_call 92; (with_reducible refine (cfg_peek HP1.out).mono ?_); rintro e w2 ⟨rfl, hb2⟩; have HP2 := Lib.hid (HP1.out.up hb2); have HS2 := Lib.hid (HS1.out.loN (HP1.out.up_lo hb2) HB.out.p); have HL2 := Lib.hid (HL1.out.trans (LoP.ofN (HP1.out.up_lo hb2) HZ1.out)); have HZ2 := Lib.hid (Nat.le_of_lt HS2.out.lt); obtain ⟨b0, b1, bf⟩ := HS2.out.cells; clear hb2) | (go_at_call 124; (with_reducible refine (HD.out _).mono ?_); rintro e w3 ⟨rfl, rfl⟩))
        refine wp_region_held_drew (S := (fun _ => True)) (by kernel_rfl) ?_ (fun hHeld => ?_)
        · exact trivial
        (refine takeL (i := 0) (v := ?_) rfl (by kernel_rfl) (by decide +kernel) (by decide +kernel) (fun _ _ _ h => h) (Or.inl ⟨by rfl, ?_⟩) (by assumption) ?_; rotate_left; (focus (intro w9 hS9; (try dsimp only at hS9); go_simp; (try with_reducible rfl); done)))
        (try simp only [Act.put, List.setIfInBounds_toArray, List.set_cons_zero, List.set_cons_succ])
        (refine takeL (i := 1) (v := ?_) rfl (by kernel_rfl) (by decide +kernel) (by decide +kernel) (fun _ _ _ h => h) (Or.inl ⟨by rfl, ?_⟩) (by assumption) ?_; rotate_left; (focus (intro w9 hS9; (try dsimp only at hS9); go_simp; (try with_reducible rfl); done)))
        (try simp only [Act.put, List.setIfInBounds_toArray, List.set_cons_zero, List.set_cons_succ])
        (refine takeL (i := 2) (v := ?_) rfl (by kernel_rfl) (by decide +kernel) (by decide +kernel) (fun _ _ _ h => h) (Or.inl ⟨by rfl, ?_⟩) (by assumption) ?_; rotate_left; (focus (intro w9 hS9; (try dsimp only at hS9); go_simp; (try with_reducible rfl); done)))
        (try simp only [Act.put, List.setIfInBounds_toArray, List.set_cons_zero, List.set_cons_succ])
        (refine takeL (i := 3) (v := ?_) rfl (by kernel_rfl) (by decide +kernel) (by decide +kernel) (fun _ _ _ h => h) (Or.inl ⟨by rfl, ?_⟩) (by assumption) ?_; rotate_left; (focus (intro w9 hS9; (try dsimp only at hS9); go_simp; (try with_reducible rfl); done)))
        (try simp only [Act.put, List.setIfInBounds_toArray, List.set_cons_zero, List.set_cons_succ])
        (refine takeL (i := 5) (v := ?_) rfl (by kernel_rfl) (by decide +kernel) (by decide +kernel) (fun _ _ _ h => h) (Or.inl ⟨by rfl, ?_⟩) (by assumption) ?_; rotate_left; (focus (intro w9 hS9; (try dsimp only at hS9); go_simp; (try with_reducible rfl); done)))
        (try simp only [Act.put, List.setIfInBounds_toArray, List.set_cons_zero, List.set_cons_succ])
        refine wpAnyH_ready (rs := [4, 6]) (by decide +kernel) (by simp) ?_
        refine consL rfl (fun K hK => ?_) ?_
        · (first | fail | (go_simp; first | done | (first | fail)) | go_simp)
          (first | (with_reducible refine hK.out _ _ ?_ ?_) | (go_wp2_with fail; refine hK.out _ _ ?_ ?_))
          (focus (exact trivial))
          clear hK K hHeld
          intro hHeld
          (try simp only [Act.put, List.setIfInBounds_toArray, List.set_cons_zero, List.set_cons_succ])
          refine wpAnyH_ready (rs := [6]) (by decide +kernel) (by simp) ?_
          refine consL rfl (fun K hK => ?_) ?_
          · go_simp
            go_at_call 98
            (with_reducible refine (HU.out _ (HP2.out.up (below_drw2 _))).mono ?_)
            rintro e w4 ⟨rfl, hl4⟩
            refine ⟨rfl, ?_⟩
            rw [HR.out]
            exact ⟨rfl, HL2.out.trans (LoP.ofN ((HP2.out.up_lo (below_drw2 _)).trans hl4) HZ2.out)⟩
          exact AllReadyH.nil
        refine consL rfl (fun K hK => ?_) ?_
        · go_simp
          go_at_call 98
          (with_reducible refine (HU.out _ (HP2.out.up (below_drw2 _))).mono ?_)
          rintro e w4 ⟨rfl, hl4⟩
          refine ⟨rfl, ?_⟩
          rw [HR.out]
          exact ⟨rfl, HL2.out.trans (LoP.ofN ((HP2.out.up_lo (below_drw2 _)).trans hl4) HZ2.out)⟩
        exact AllReadyH.nil
      | ok vr =>
        obtain ⟨v, r⟩ := vr
        have HR : Hid (V = .ok ((os, v :: us), r)) := Lib.hid HE.out
        have HVI := Lib.hid (useS_in HSY.out HUE.out.symm)
        clear HE
        go_wp2_with (first | (go_at_call 88; (with_reducible refine HA1.out.mono ?_); rintro e w0 ⟨rfl, hb0⟩; have HP0 := Lib.hid (HP.out.up hb0); have HS0 := Lib.hid (HS.out.loN (HP.out.up_lo hb0) HB.out.p); have HL0 := Lib.hid (HL.out.trans (LoP.ofN (HP.out.up_lo hb0) HZ.out)); have HZ0 := Lib.hid (Nat.le_of_lt HS0.out.lt); clear hb0) | (go_at_call 88; (with_reducible refine (cfg_accept_no (w := [45]) HP0.out HC2.out).mono ?_); rintro e w1 ⟨rfl, hb1⟩; have HP1 := Lib.hid (HP0.out.up hb1); have HS1 := Lib.hid (HS0.out.loN (HP0.out.up_lo hb1) HB.out.p); have HL1 := Lib.hid (HL0.out.trans (LoP.ofN (HP0.out.up_lo hb1) HZ0.out)); have HZ1 := Lib.hid (Nat.le_of_lt HS1.out.lt); clear hb1) | (go_at_call 92; (with_reducible refine (cfg_peek HP1.out).mono ?_); rintro e w2 ⟨rfl, hb2⟩; have HP2 := Lib.hid (HP1.out.up hb2); have HS2 := Lib.hid (HS1.out.loN (HP1.out.up_lo hb2) HB.out.p); have HL2 := Lib.hid (HL1.out.trans (LoP.ofN (HP1.out.up_lo hb2) HZ1.out)); have HZ2 := Lib.hid (Nat.le_of_lt HS2.out.lt); obtain ⟨b0, b1, bf⟩ := HS2.out.cells; clear hb2) | (go_at_call 124; (with_reducible refine (HD.out _).mono ?_); rintro e w3 ⟨rfl, rfl⟩))
        refine wp_region_held_drew (S := (fun _ => True)) (by kernel_rfl) ?_ (fun hHeld => ?_)
        · exact trivial
        (refine takeL (i := 0) (v := ?_) rfl (by kernel_rfl) (by decide +kernel) (by decide +kernel) (fun _ _ _ h => h) (Or.inl ⟨by rfl, ?_⟩) (by assumption) ?_; rotate_left; (focus (intro w9 hS9; (try dsimp only at hS9); go_simp; (try with_reducible rfl); done)))
        (try simp only [Act.put, List.setIfInBounds_toArray, List.set_cons_zero, List.set_cons_succ])
        (refine takeL (i := 1) (v := ?_) rfl (by kernel_rfl) (by decide +kernel) (by decide +kernel) (fun _ _ _ h => h) (Or.inl ⟨by rfl, ?_⟩) (by assumption) ?_; rotate_left; (focus (intro w9 hS9; (try dsimp only at hS9); go_simp; (try with_reducible rfl); done)))
        (try simp only [Act.put, List.setIfInBounds_toArray, List.set_cons_zero, List.set_cons_succ])
        (refine takeL (i := 2) (v := ?_) rfl (by kernel_rfl) (by decide +kernel) (by decide +kernel) (fun _ _ _ h => h) (Or.inl ⟨by rfl, ?_⟩) (by assumption) ?_; rotate_left; (focus (intro w9 hS9; (try dsimp only at hS9); go_simp; (try with_reducible rfl); done)))
        (try simp only [Act.put, List.setIfInBounds_toArray, List.set_cons_zero, List.set_cons_succ])
        (refine takeL (i := 3) (v := ?_) rfl (by kernel_rfl) (by decide +kernel) (by decide +kernel) (fun _ _ _ h => h) (Or.inl ⟨by rfl, ?_⟩) (by assumption) ?_; rotate_left; (focus (intro w9 hS9; (try dsimp only at hS9); go_simp; (try with_reducible rfl); done)))
        (try simp only [Act.put, List.setIfInBounds_toArray, List.set_cons_zero, List.set_cons_succ])
        (refine takeL (i := 5) (v := ?_) rfl (by kernel_rfl) (by decide +kernel) (by decide +kernel) (fun _ _ _ h => h) (Or.inl ⟨by rfl, ?_⟩) (by assumption) ?_; rotate_left; (focus (intro w9 hS9; (try dsimp only at hS9); go_simp; (try with_reducible rfl); done)))
        (try simp only [Act.put, List.setIfInBounds_toArray, List.set_cons_zero, List.set_cons_succ])
        refine wpAnyH_ready (rs := [4, 6]) (by decide +kernel) (by simp) ?_
        refine consL rfl (fun K hK => ?_) ?_
        · (first | fail | (go_simp; first | done | (first | fail)) | go_simp)
          (first | (with_reducible refine hK.out _ _ ?_ ?_) | (go_wp2_with fail; refine hK.out _ _ ?_ ?_))
          (focus (exact trivial))
          clear hK K hHeld
          intro hHeld
          (try simp only [Act.put, List.setIfInBounds_toArray, List.set_cons_zero, List.set_cons_succ])
          refine wpAnyH_ready (rs := [6]) (by decide +kernel) (by simp) ?_
          refine consL rfl (fun K hK => ?_) ?_
          · (first | (go_at_call 98; (with_reducible refine (HU.out _ (HP2.out.up (below_drw2 _))).mono ?_); rintro e w4 ⟨rfl, hp4, hl4⟩; simp only [encI]; have HP4 := Lib.hid hp4; have HS4 := Lib.hid (HS2.out.loN ((HP2.out.up_lo (below_drw2 _)).trans hl4) HB.out.p); have HL4 := Lib.hid (HL2.out.trans (LoP.ofN ((HP2.out.up_lo (below_drw2 _)).trans hl4) HZ2.out)); obtain ⟨d0, d1, df⟩ := HS4.out.cells; clear hp4 hl4) | (go_simp; first | done | (first | (go_at_call 98; (with_reducible refine (HU.out _ (HP2.out.up (below_drw2 _))).mono ?_); rintro e w4 ⟨rfl, hp4, hl4⟩; simp only [encI]; have HP4 := Lib.hid hp4; have HS4 := Lib.hid (HS2.out.loN ((HP2.out.up_lo (below_drw2 _)).trans hl4) HB.out.p); have HL4 := Lib.hid (HL2.out.trans (LoP.ofN ((HP2.out.up_lo (below_drw2 _)).trans hl4) HZ2.out)); obtain ⟨d0, d1, df⟩ := HS4.out.cells; clear hp4 hl4))) | go_simp)
            (first | (with_reducible refine hK.out _ _ ?_ ?_) | (go_wp2_with fail; refine hK.out _ _ ?_ ?_))
            (focus (exact trivial))
            clear hK K hHeld
            intro hHeld
            (try simp only [Act.put, List.setIfInBounds_toArray, List.set_cons_zero, List.set_cons_succ])
            refine wpAnyH_ready (rs := [7]) (by decide +kernel) (by simp) ?_
            refine consL rfl (fun K hK => ?_) ?_
            · (first | fail | (go_simp; first | done | (first | fail)) | go_simp)
              (first | (with_reducible refine hK.out _ _ ?_ ?_) | (go_wp2_with fail; refine hK.out _ _ ?_ ?_))
              (focus (exact trivial))
              clear hK K hHeld
              intro hHeld
              (try simp only [Act.put, List.setIfInBounds_toArray, List.set_cons_zero, List.set_cons_succ])
              refine wpAnyH_ready (rs := [8]) (by decide +kernel) (by simp) ?_
              refine consL rfl (fun K hK => ?_) ?_
              · (first | (refine step_append_lies _ rfl _ _ 155 rfl (stb + 1) 3 j0 (.int .i64 0) 1 8 Tryz.underlying155 hj hj0 hj1 hj2 rfl (by decide) _ _ _ rfl (HS4.out.hv.alloc _) ⟨_, 0, none⟩ 1 1 [.int .i64 v] rfl rfl (cell_one_new _ _ _) (by intro u hu; simp at hu; subst hu; rfl) (by decide) (by have := HM.out; unfold maxLen; omega) (by have := HM.out; omega) (by have := HS4.out.lt; simp; omega) _ rfl ?_; intro gg cap W9 ap1 ap2 ap3 ap4; obtain ⟨p1, p2, p3, p4⟩ := HS4.out.vpush HVI.out ap1 ap2; have P1 := Lib.hid p1; have P2 := Lib.hid p2; clear p1 p2 ap1 ap2 ap3 ap4) | (go_simp; first | done | (first | (refine step_append_lies _ rfl _ _ 155 rfl (stb + 1) 3 j0 (.int .i64 0) 1 8 Tryz.underlying155 hj hj0 hj1 hj2 rfl (by decide) _ _ _ rfl (HS4.out.hv.alloc _) ⟨_, 0, none⟩ 1 1 [.int .i64 v] rfl rfl (cell_one_new _ _ _) (by intro u hu; simp at hu; subst hu; rfl) (by decide) (by have := HM.out; unfold maxLen; omega) (by have := HM.out; omega) (by have := HS4.out.lt; simp; omega) _ rfl ?_; intro gg cap W9 ap1 ap2 ap3 ap4; obtain ⟨p1, p2, p3, p4⟩ := HS4.out.vpush HVI.out ap1 ap2; have P1 := Lib.hid p1; have P2 := Lib.hid p2; clear p1 p2 ap1 ap2 ap3 ap4))) | go_simp)
                (first | (with_reducible refine hK.out _ _ ?_ ?_) | (go_wp2_with fail; refine hK.out _ _ ?_ ?_))
                (focus (exact trivial))
                clear hK K hHeld
                intro hHeld
                (try simp only [Act.put, List.setIfInBounds_toArray, List.set_cons_zero, List.set_cons_succ])
                (refine takeL (i := 9) (v := ?_) rfl (by kernel_rfl) (by decide +kernel) (by decide +kernel) (fun _ _ _ h => h) (Or.inl ⟨by rfl, ?_⟩) (by assumption) ?_; rotate_left; (focus (intro w9 hS9; (try dsimp only at hS9); go_simp; (try with_reducible rfl); done)))
                (try simp only [Act.put, List.setIfInBounds_toArray, List.set_cons_zero, List.set_cons_succ])
                (refine takeL (i := 10) (v := ?_) rfl (by kernel_rfl) (by decide +kernel) (by decide +kernel) (fun _ _ _ h => h) (Or.inl ⟨by rfl, ?_⟩) (by assumption) ?_; rotate_left; (focus (intro w9 hS9; (try dsimp only at hS9); go_simp; (try with_reducible rfl); done)))
                (try simp only [Act.put, List.setIfInBounds_toArray, List.set_cons_zero, List.set_cons_succ])
                refine wpAnyH_ready (rs := [11]) (by decide +kernel) (by simp) ?_
                refine consL rfl (fun K hK => ?_) ?_
                · (first | fail | (go_simp; first | done | (first | fail)) | go_simp)
                  (first | (with_reducible refine hK.out _ _ ?_ ?_) | (go_wp2_with fail; refine hK.out _ _ ?_ ?_))
                  (focus (exact trivial))
                  clear hK K hHeld
                  intro hHeld
                  (try simp only [Act.put, List.setIfInBounds_toArray, List.set_cons_zero, List.set_cons_succ])
                  refine wpAnyH_done (by decide +kernel) ?_ _
                  go_wp2_with fail
                  go_end0
                  rw [HR.out]
                  exact ⟨rfl, HP4.out.onB HB.out P2.out, HL4.out.trans (LoP.ofZ P2.out), _, _, _, _, P1.out⟩
                exact AllReadyH.nil
              exact AllReadyH.nil
            exact AllReadyH.nil
          exact AllReadyH.nil
        refine consL rfl (fun K hK => ?_) ?_
        · (first | (go_at_call 98; (with_reducible refine (HU.out _ (HP2.out.up (below_drw2 _))).mono ?_); rintro e w4 ⟨rfl, hp4, hl4⟩; simp only [encI]; have HP4 := Lib.hid hp4; have HS4 := Lib.hid (HS2.out.loN ((HP2.out.up_lo (below_drw2 _)).trans hl4) HB.out.p); have HL4 := Lib.hid (HL2.out.trans (LoP.ofN ((HP2.out.up_lo (below_drw2 _)).trans hl4) HZ2.out)); obtain ⟨d0, d1, df⟩ := HS4.out.cells; clear hp4 hl4) | (go_simp; first | done | (first | (go_at_call 98; (with_reducible refine (HU.out _ (HP2.out.up (below_drw2 _))).mono ?_); rintro e w4 ⟨rfl, hp4, hl4⟩; simp only [encI]; have HP4 := Lib.hid hp4; have HS4 := Lib.hid (HS2.out.loN ((HP2.out.up_lo (below_drw2 _)).trans hl4) HB.out.p); have HL4 := Lib.hid (HL2.out.trans (LoP.ofN ((HP2.out.up_lo (below_drw2 _)).trans hl4) HZ2.out)); obtain ⟨d0, d1, df⟩ := HS4.out.cells; clear hp4 hl4))) | go_simp)
          (first | (with_reducible refine hK.out _ _ ?_ ?_) | (go_wp2_with fail; refine hK.out _ _ ?_ ?_))
          (focus (exact trivial))
          clear hK K hHeld
          intro hHeld
          (try simp only [Act.put, List.setIfInBounds_toArray, List.set_cons_zero, List.set_cons_succ])
          refine wpAnyH_ready (rs := [4, 7]) (by decide +kernel) (by simp) ?_
          refine consL rfl (fun K hK => ?_) ?_
          · (first | fail | (go_simp; first | done | (first | fail)) | go_simp)
            (first | (with_reducible refine hK.out _ _ ?_ ?_) | (go_wp2_with fail; refine hK.out _ _ ?_ ?_))
            (focus (exact trivial))
            clear hK K hHeld
            intro hHeld
            (try simp only [Act.put, List.setIfInBounds_toArray, List.set_cons_zero, List.set_cons_succ])
            refine wpAnyH_ready (rs := [7]) (by decide +kernel) (by simp) ?_
            refine consL rfl (fun K hK => ?_) ?_
            · (first | fail | (go_simp; first | done | (first | fail)) | go_simp)
              (first | (with_reducible refine hK.out _ _ ?_ ?_) | (go_wp2_with fail; refine hK.out _ _ ?_ ?_))
              (focus (exact trivial))
              clear hK K hHeld
              intro hHeld
              (try simp only [Act.put, List.setIfInBounds_toArray, List.set_cons_zero, List.set_cons_succ])
              refine wpAnyH_ready (rs := [8]) (by decide +kernel) (by simp) ?_
              refine consL rfl (fun K hK => ?_) ?_
              · (first | (refine step_append_lies _ rfl _ _ 155 rfl (stb + 1) 3 j0 (.int .i64 0) 1 8 Tryz.underlying155 hj hj0 hj1 hj2 rfl (by decide) _ _ _ rfl (HS4.out.hv.alloc _) ⟨_, 0, none⟩ 1 1 [.int .i64 v] rfl rfl (cell_one_new _ _ _) (by intro u hu; simp at hu; subst hu; rfl) (by decide) (by have := HM.out; unfold maxLen; omega) (by have := HM.out; omega) (by have := HS4.out.lt; simp; omega) _ rfl ?_; intro gg cap W9 ap1 ap2 ap3 ap4; obtain ⟨p1, p2, p3, p4⟩ := HS4.out.vpush HVI.out ap1 ap2; have P1 := Lib.hid p1; have P2 := Lib.hid p2; clear p1 p2 ap1 ap2 ap3 ap4) | (go_simp; first | done | (first | (refine step_append_lies _ rfl _ _ 155 rfl (stb + 1) 3 j0 (.int .i64 0) 1 8 Tryz.underlying155 hj hj0 hj1 hj2 rfl (by decide) _ _ _ rfl (HS4.out.hv.alloc _) ⟨_, 0, none⟩ 1 1 [.int .i64 v] rfl rfl (cell_one_new _ _ _) (by intro u hu; simp at hu; subst hu; rfl) (by decide) (by have := HM.out; unfold maxLen; omega) (by have := HM.out; omega) (by have := HS4.out.lt; simp; omega) _ rfl ?_; intro gg cap W9 ap1 ap2 ap3 ap4; obtain ⟨p1, p2, p3, p4⟩ := HS4.out.vpush HVI.out ap1 ap2; have P1 := Lib.hid p1; have P2 := Lib.hid p2; clear p1 p2 ap1 ap2 ap3 ap4))) | go_simp)
                (first | (with_reducible refine hK.out _ _ ?_ ?_) | (go_wp2_with fail; refine hK.out _ _ ?_ ?_))
                (focus (exact trivial))
                clear hK K hHeld
                intro hHeld
                (try simp only [Act.put, List.setIfInBounds_toArray, List.set_cons_zero, List.set_cons_succ])
                (refine takeL (i := 9) (v := ?_) rfl (by kernel_rfl) (by decide +kernel) (by decide +kernel) (fun _ _ _ h => h) (Or.inl ⟨by rfl, ?_⟩) (by assumption) ?_; rotate_left; (focus (intro w9 hS9; (try dsimp only at hS9); go_simp; (try with_reducible rfl); done)))
                (try simp only [Act.put, List.setIfInBounds_toArray, List.set_cons_zero, List.set_cons_succ])
                (refine takeL (i := 10) (v := ?_) rfl (by kernel_rfl) (by decide +kernel) (by decide +kernel) (fun _ _ _ h => h) (Or.inl ⟨by rfl, ?_⟩) (by assumption) ?_; rotate_left; (focus (intro w9 hS9; (try dsimp only at hS9); go_simp; (try with_reducible rfl); done)))
                (try simp only [Act.put, List.setIfInBounds_toArray, List.set_cons_zero, List.set_cons_succ])
                refine wpAnyH_ready (rs := [11]) (by decide +kernel) (by simp) ?_
                refine consL rfl (fun K hK => ?_) ?_
                · (first | fail | (go_simp; first | done | (first | fail)) | go_simp)
                  (first | (with_reducible refine hK.out _ _ ?_ ?_) | (go_wp2_with fail; refine hK.out _ _ ?_ ?_))
                  (focus (exact trivial))
                  clear hK K hHeld
                  intro hHeld
                  (try simp only [Act.put, List.setIfInBounds_toArray, List.set_cons_zero, List.set_cons_succ])
                  refine wpAnyH_done (by decide +kernel) ?_ _
                  go_wp2_with fail
                  go_end0
                  rw [HR.out]
                  exact ⟨rfl, HP4.out.onB HB.out P2.out, HL4.out.trans (LoP.ofZ P2.out), _, _, _, _, P1.out⟩
                exact AllReadyH.nil
              exact AllReadyH.nil
            exact AllReadyH.nil
          refine consL rfl (fun K hK => ?_) ?_
          · (first | fail | (go_simp; first | done | (first | fail)) | go_simp)
            (first | (with_reducible refine hK.out _ _ ?_ ?_) | (go_wp2_with fail; refine hK.out _ _ ?_ ?_))
            (focus (exact trivial))
            clear hK K hHeld
            intro hHeld
            (try simp only [Act.put, List.setIfInBounds_toArray, List.set_cons_zero, List.set_cons_succ])
            have e0 := cell_up (below_box w4 (.cells #[.int .i64 v] 3)) d0
            refine wpAnyH_ready (rs := [4]) (by decide +kernel) (by simp) ?_
            refine consL rfl (fun K hK => ?_) ?_
            · (first | fail | (go_simp; first | done | (first | fail)) | go_simp)
              (first | (with_reducible refine hK.out _ _ ?_ ?_) | (go_wp2_with fail; refine hK.out _ _ ?_ ?_))
              (focus (exact trivial))
              clear hK K hHeld
              intro hHeld
              (try simp only [Act.put, List.setIfInBounds_toArray, List.set_cons_zero, List.set_cons_succ])
              refine wpAnyH_ready (rs := [8]) (by decide +kernel) (by simp) ?_
              refine consL rfl (fun K hK => ?_) ?_
              · (first | (refine step_append_lies _ rfl _ _ 155 rfl (stb + 1) 3 j0 (.int .i64 0) 1 8 Tryz.underlying155 hj hj0 hj1 hj2 rfl (by decide) _ _ _ rfl (HS4.out.hv.alloc _) ⟨_, 0, none⟩ 1 1 [.int .i64 v] rfl rfl (cell_one_new _ _ _) (by intro u hu; simp at hu; subst hu; rfl) (by decide) (by have := HM.out; unfold maxLen; omega) (by have := HM.out; omega) (by have := HS4.out.lt; simp; omega) _ rfl ?_; intro gg cap W9 ap1 ap2 ap3 ap4; obtain ⟨p1, p2, p3, p4⟩ := HS4.out.vpush HVI.out ap1 ap2; have P1 := Lib.hid p1; have P2 := Lib.hid p2; clear p1 p2 ap1 ap2 ap3 ap4) | (go_simp; first | done | (first | (refine step_append_lies _ rfl _ _ 155 rfl (stb + 1) 3 j0 (.int .i64 0) 1 8 Tryz.underlying155 hj hj0 hj1 hj2 rfl (by decide) _ _ _ rfl (HS4.out.hv.alloc _) ⟨_, 0, none⟩ 1 1 [.int .i64 v] rfl rfl (cell_one_new _ _ _) (by intro u hu; simp at hu; subst hu; rfl) (by decide) (by have := HM.out; unfold maxLen; omega) (by have := HM.out; omega) (by have := HS4.out.lt; simp; omega) _ rfl ?_; intro gg cap W9 ap1 ap2 ap3 ap4; obtain ⟨p1, p2, p3, p4⟩ := HS4.out.vpush HVI.out ap1 ap2; have P1 := Lib.hid p1; have P2 := Lib.hid p2; clear p1 p2 ap1 ap2 ap3 ap4))) | go_simp)
                (first | (with_reducible refine hK.out _ _ ?_ ?_) | (go_wp2_with fail; refine hK.out _ _ ?_ ?_))
                (focus (exact trivial))
                clear hK K hHeld
                intro hHeld
                (try simp only [Act.put, List.setIfInBounds_toArray, List.set_cons_zero, List.set_cons_succ])
                (refine takeL (i := 9) (v := ?_) rfl (by kernel_rfl) (by decide +kernel) (by decide +kernel) (fun _ _ _ h => h) (Or.inl ⟨by rfl, ?_⟩) (by assumption) ?_; rotate_left; (focus (intro w9 hS9; (try dsimp only at hS9); go_simp; (try with_reducible rfl); done)))
                (try simp only [Act.put, List.setIfInBounds_toArray, List.set_cons_zero, List.set_cons_succ])
                (refine takeL (i := 10) (v := ?_) rfl (by kernel_rfl) (by decide +kernel) (by decide +kernel) (fun _ _ _ h => h) (Or.inl ⟨by rfl, ?_⟩) (by assumption) ?_; rotate_left; (focus (intro w9 hS9; (try dsimp only at hS9); go_simp; (try with_reducible rfl); done)))
                (try simp only [Act.put, List.setIfInBounds_toArray, List.set_cons_zero, List.set_cons_succ])
                refine wpAnyH_ready (rs := [11]) (by decide +kernel) (by simp) ?_
                refine consL rfl (fun K hK => ?_) ?_
                · (first | fail | (go_simp; first | done | (first | fail)) | go_simp)
                  (first | (with_reducible refine hK.out _ _ ?_ ?_) | (go_wp2_with fail; refine hK.out _ _ ?_ ?_))
                  (focus (exact trivial))
                  clear hK K hHeld
                  intro hHeld
                  (try simp only [Act.put, List.setIfInBounds_toArray, List.set_cons_zero, List.set_cons_succ])
                  refine wpAnyH_done (by decide +kernel) ?_ _
                  go_wp2_with fail
                  go_end0
                  rw [HR.out]
                  exact ⟨rfl, HP4.out.onB HB.out P2.out, HL4.out.trans (LoP.ofZ P2.out), _, _, _, _, P1.out⟩
                exact AllReadyH.nil
              exact AllReadyH.nil
            exact AllReadyH.nil
          exact AllReadyH.nil
        exact AllReadyH.nil
end

end Go.Proofs.YtpofbhaipeiegaaGreatDoor
