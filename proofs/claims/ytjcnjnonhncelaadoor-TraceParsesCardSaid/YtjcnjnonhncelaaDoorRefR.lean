/-
  waypointref55.number, index, words: what each returns.
-/
import Derived.Test.YtjcnjnonhncelaaDoorParR
import Derived.Test.YtjcnjnonhncelaaDoorTrS
import Derived.IntWalk
namespace Go.Proofs.YtjcnjnonhncelaaDoor
open Go.RowKit Go.Sort
set_option linter.unusedSimpArgs false
set_option linter.unusedVariables false

theorem val_nextR {l : List UInt8} {k : Nat} {b : UInt8} (h : l[k]? = some b) : (l.take (k + 1)).foldl valF 0 = 10 * (l.take k).foldl valF 0 + (b.toNat : Int) - 48 := by
  obtain ⟨hk, rfl⟩ := List.getElem?_eq_some_iff.1 h
  rw [List.take_succ_eq_append_getElem hk, List.foldl_append]
  rfl
theorem digB_take {l : List UInt8} {k : Nat} {b : UInt8} (h : l[k]? = some b) : (l.take (k + 1)).all digB = ((l.take k).all digB && digB b) := by
  obtain ⟨hk, rfl⟩ := List.getElem?_eq_some_iff.1 h
  rw [List.take_succ_eq_append_getElem hk, List.all_append]
  simp
theorem digB_no {l : List UInt8} {k : Nat} {b : UInt8} (h : l[k]? = some b) (hb : digB b = false) : l.all digB = false := by
  rw [List.all_eq_false]
  exact ⟨b, List.mem_of_getElem? h, by simp [hb]⟩
theorem val_ten : ∀ (n : Nat) (l : List UInt8), l.length = n → l.all digB = true → 0 ≤ l.foldl valF 0 ∧ l.foldl valF 0 < 10 ^ n := by
  intro n
  induction n with
  | zero => intro l h _; rw [List.eq_nil_of_length_eq_zero h]; simp
  | succ n ih =>
    intro l h ha
    rcases List.eq_nil_or_concat l with rfl | ⟨m, b, rfl⟩
    · simp at h
    · rw [List.concat_eq_append] at *
      rw [List.all_append] at ha
      simp only [List.all_cons, List.all_nil, Bool.and_true, Bool.and_eq_true, digB, decide_eq_true_iff] at ha
      have := ih m (by simp at h; exact h) (by simp only [List.all_eq_true, digB, Bool.and_eq_true, decide_eq_true_iff] at ha ⊢; exact ha.1)
      rw [List.foldl_append]
      simp only [List.foldl_cons, List.foldl_nil, valF]
      have e : (10 : Int) ^ (n + 1) = 10 ^ n * 10 := Int.pow_succ _ _
      omega
theorem val_tk {l : List UInt8} {k : Nat} (hk : k ≤ l.length) (h10 : l.length ≤ 10) (h : (l.take k).all digB = true) : 0 ≤ (l.take k).foldl valF 0 ∧ (l.take k).foldl valF 0 < 10000000000 := by
  have h1 := val_ten k (l.take k) (by rw [List.length_take]; omega) h
  have : (10 : Int) ^ k ≤ 10 ^ 10 := by exact_mod_cast Nat.pow_le_pow_right (by decide : 0 < 10) (show k ≤ 10 by omega)
  have e : (10 : Int) ^ 10 = 10000000000 := by decide
  omega

set_option maxHeartbeats 2000000 in
set_option maxRecDepth 100000 in
theorem ref55_number (s : List UInt8) (hs : s.length ≤ 1000000) (w : World) :
    Calls Tryd.prog 64 #[.string ⟨s.toArray⟩] w fun e w' => e = .returned (.int .i64 (numR s)) ∧ w' = w := by
  by_cases h0 : s.length = 0
  · obtain rfl : s = [] := List.eq_nil_of_length_eq_zero h0
    go_enter Tryd.func64, Tryd.ntmps64
    go_wp2_with fail
    go_ret
    exact ⟨rfl, rfl⟩
  by_cases h10 : 10 < s.length
  · have HR : Hid (numR s = -1) := Lib.hid (by unfold numR; rw [if_pos (.inr (.inl h10))])
    have h10' : (10 : Int) < (s.length : Int) := by omega
    have h0' : ((s.length : Int) == 0) = false := by rw [beq_eq_false_iff_ne]; omega
    go_enter Tryd.func64, Tryd.ntmps64
    go_wp2_with fail
    go_ret
    exact ⟨by rw [HR.out]; rfl, rfl⟩
  have h10' : (s.length : Int) ≤ 10 := by omega
  have h0' : ((s.length : Int) == 0) = false := by rw [beq_eq_false_iff_ne]; omega
  have hpos : (0 : Int) < (s.length : Int) := by omega
  obtain ⟨a, ha⟩ : ∃ a, s[0]? = some a := ⟨_, List.getElem?_eq_getElem (by omega)⟩
  obtain ⟨_, hae⟩ := List.getElem?_eq_some_iff.1 ha
  have ha2 : (⟨s.toArray⟩ : ByteArray)[0]'(by simp [ByteArray.size]; omega) = a := by simpa [ByteArray.getElem_eq_getElem_data] using hae
  have hhd : s.head? = some a := by rw [← ha]; cases s <;> rfl
  have HH := Lib.hid hhd
  have HNE : Hid (s ≠ []) := Lib.hid (by rintro rfl; simp at h0)
  clear hae ha hhd
  by_cases hz : a = 48 ∧ 1 < s.length
  · obtain ⟨rfl, h1⟩ := hz
    have h1' : (1 : Int) < (s.length : Int) := by omega
    have HR : Hid (numR s = -1) := Lib.hid (by unfold numR; rw [if_pos (.inr (.inr ⟨HH.out, h1⟩))])
    go_enter Tryd.func64, Tryd.ntmps64
    go_wp2_with fail
    go_ret
    exact ⟨by rw [HR.out]; rfl, rfl⟩
  have HM : Hid (numR s = if s.all digB = true then s.foldl valF 0 else -1) := Lib.hid (by
    unfold numR
    rw [if_neg]
    rintro (h | h | ⟨h, h2⟩)
    · exact HNE.out h
    · omega
    · rw [HH.out] at h; injection h with h; exact hz ⟨h, h2⟩)
  have hz2 : ((a.toNat : Int) == 48) = false ∨ (a = 48 ∧ ¬ (1 : Int) < (s.length : Int)) := by
    by_cases h1 : a = 48
    · exact .inr ⟨h1, fun h2 => hz ⟨h1, by omega⟩⟩
    · left
      rw [beq_eq_false_iff_ne]; intro e
      exact h1 (UInt8.toNat_inj.1 (by rw [show (48 : UInt8).toNat = 48 from rfl]; omega))
  clear hz h0
  have HS : Hid (s.length ≤ 10) := Lib.hid (by omega)
  rcases hz2 with hz2 | ⟨rfl, hz2⟩
  all_goals
    go_enter Tryd.func64, Tryd.ntmps64
    go_wp2_with fail
    go_loopw [3, 4] (fun v i wr => ∃ k : Nat, k ≤ s.length ∧ i = .int .i64 k ∧ v = .int .i64 ((s.take k).foldl valF 0) ∧ Hid ((s.take k).all digB = true) ∧ wr = w) (fun _ i _ => s.length - (intOf i).toNat)
    case atStart => exact ⟨0, Nat.zero_le _, rfl, by simp, Lib.hid (by simp), rfl⟩
    case round =>
      obtain ⟨k, hk, rfl, rfl, HD, rfl⟩ := hrel
      obtain ⟨v, hv⟩ : ∃ v, v = (s.take k).foldl valF 0 := ⟨_, rfl⟩
      have hvb := val_tk hk HS.out HD.out
      rw [← hv] at hvb ⊢
      obtain ⟨hv0, hv1⟩ := hvb
      by_cases hlt : k < s.length
      · have hlt' : (k : Int) < (s.length : Int) := by omega
        obtain ⟨b, hb⟩ : ∃ b, s[k]? = some b := ⟨_, List.getElem?_eq_getElem hlt⟩
        have hbb : b.toNat < 256 := b.toNat_lt
        have HV := Lib.hid (val_nextR hb)
        have HT := Lib.hid (digB_take hb)
        have HNo := Lib.hid (fun h => digB_no hb h)
        obtain ⟨hk', hbe⟩ := List.getElem?_eq_some_iff.1 hb
        have hb2 : (⟨s.toArray⟩ : ByteArray)[k]'(by simpa [ByteArray.size] using hlt) = b := by simpa [ByteArray.getElem_eq_getElem_data] using hbe
        rw [← hv] at HV
        clear hv hb hbe
        by_cases hb0 : (b.toNat : Int) < 48
        · have HR : Hid (numR s = -1) := Lib.hid (by rw [HM.out, if_neg (by rw [HNo.out (by simp [digB]; omega)]; simp)])
          go_wp2_with fail
          go_ret
          exact ⟨by rw [HR.out]; rfl, rfl⟩
        by_cases hb1 : (57 : Int) < (b.toNat : Int)
        · have HR : Hid (numR s = -1) := Lib.hid (by rw [HM.out, if_neg (by rw [HNo.out (by simp [digB]; omega)]; simp)])
          go_wp2_with fail
          go_ret
          exact ⟨by rw [HR.out]; rfl, rfl⟩
        have hc0 : (48 : Int) ≤ (b.toNat : Int) := by omega
        have hc1 : (b.toNat : Int) ≤ 57 := by omega
        have HD2 : Hid ((s.take (k + 1)).all digB = true) := Lib.hid (by rw [HT.out, HD.out]; simp [digB]; omega)
        go_wp2_with fail
        go_roundw
        case rel => exact ⟨k + 1, by omega, by go_num, by rw [HV.out]; go_num, HD2, trivial⟩
        case measure => simp [intOf]; omega
      · obtain rfl : k = s.length := by omega
        have HR : Hid (numR s = v) := Lib.hid (by have := HD.out; rw [List.take_length] at this; rw [HM.out, if_pos this, hv, List.take_length])
        clear hv
        go_wp2_with fail
        go_ret
        exact ⟨by rw [HR.out]; rfl, rfl⟩

theorem nameP_hit {l : List (List UInt8)} {k : Nat} {x : List UInt8} (h : l[k]? = some x) (hn : ∀ j, j < k → l[j]? ≠ some x) : nameP l x = (k : Int) := by
  obtain ⟨hk, hx⟩ := List.getElem?_eq_some_iff.1 h
  have := Lib.idxOfS_hit (bas l) l.length k ⟨x.toArray⟩ hk (by simp [bas]) (by simp [bas, List.getD_eq_getElem?_getD, h]) (fun j hj e => by
    have hjl : j < l.length := by omega
    simp [bas, List.getD_eq_getElem?_getD, List.getElem?_eq_getElem hjl] at e
    exact hn j hj (by rw [List.getElem?_eq_getElem hjl, e]))
  rw [List.take_of_length_le (by simp [bas])] at this
  exact this
theorem nameP_miss {l : List (List UInt8)} {x : List UInt8} (hn : ∀ j : Nat, l[j]? ≠ some x) : nameP l x = -1 := by
  unfold nameP Lib.idxOfS
  suffices H : ∀ (l : List (List UInt8)) (i : Nat), (∀ j : Nat, l[j]? ≠ some x) → Lib.idxFromS (bas l) ⟨x.toArray⟩ i = -1 from H l 0 hn
  intro l
  induction l with
  | nil => intro i _; rfl
  | cons z zs ih =>
    intro i h
    show Lib.idxFromS (⟨z.toArray⟩ :: bas zs) _ i = -1
    rw [Lib.idxFromS, if_neg, ih (i + 1) (fun j => by have := h (j + 1); simpa using this)]
    intro e
    have := h 0
    simp at this e
    exact this e

/-- A list of strings that can be read. -/
def RdS (w : World) (A : Option Addr) (ps : List (List UInt8)) : Prop := ps = [] ∨ ∃ b o, A = some ⟨b, o, none⟩ ∧ ∀ (k : Nat) (p : List UInt8), ps[k]? = some p → w.cell? ⟨b, o + k, none⟩ = some (.string ⟨p.toArray⟩)
theorem RdS.at_ {w : World} {A : Option Addr} {ps : List (List UInt8)} {k : Nat} (h : RdS w A ps) (hk : k < ps.length) : ∃ b o p, A = some ⟨b, o, none⟩ ∧ ps[k]? = some p ∧ w.cell? ⟨b, o + k, none⟩ = some (.string ⟨p.toArray⟩) := by
  rcases h with rfl | ⟨b, o, rfl, hc⟩
  · simp at hk
  · exact ⟨b, o, ps[k], rfl, List.getElem?_eq_getElem hk, hc k _ (List.getElem?_eq_getElem hk)⟩
set_option maxHeartbeats 2000000 in
set_option maxRecDepth 100000 in
theorem ref55_index (A : Option Addr) (c : Nat) (ps : List (List UInt8)) (x : List UInt8) (hp : ps.length ≤ 100000) (w : World) (h : RdS w A ps) :
    Calls Tryd.prog 65 #[.slice A ps.length c, .string ⟨x.toArray⟩] w fun e w' => e = .returned (.int .i64 (nameP ps x)) ∧ w' = w := by
  have HA := Lib.hid h
  clear h
  go_enter Tryd.func65, Tryd.ntmps65
  go_wp2_with fail
  go_loop [5] (fun i => ∃ k : Nat, k ≤ ps.length ∧ i = .int .i64 k ∧ Hid (∀ j : Nat, j < k → ps[j]? ≠ some x)) (fun i => ps.length - (intOf i).toNat)
  case atStart => exact ⟨0, Nat.zero_le _, rfl, Lib.hid (fun j hj => absurd hj (Nat.not_lt_zero _))⟩
  case round =>
    obtain ⟨k, hk, rfl, HN⟩ := hrel
    by_cases hlt : k < ps.length
    · obtain ⟨b, o, p, rfl, hpk, hc⟩ := HA.out.at_ hlt
      have HK := Lib.hid hpk
      clear hpk
      by_cases he : p = x
      · subst he
        have HR : Hid (nameP ps p = (k : Int)) := Lib.hid (nameP_hit HK.out HN.out)
        go_wp2_with fail
        go_ret
        exact ⟨by rw [HR.out]; rfl, rfl⟩
      · have hne : (p == x) = false := by simpa using he
        have HN2 : Hid (∀ j : Nat, j < k + 1 → ps[j]? ≠ some x) := Lib.hid fun j hj => by
          by_cases hjk : j = k
          · subst hjk; rw [HK.out]; intro e; injection e with e; exact he e
          · exact HN.out j (by omega)
        go_wp2_with fail
        go_round
        case rel => exact ⟨k + 1, by omega, by go_num, HN2⟩
        case measure => simp [intOf]; omega
    · obtain rfl : k = ps.length := by omega
      have HR : Hid (nameP ps x = -1) := Lib.hid (nameP_miss fun j e => by
        have hj := (List.getElem?_eq_some_iff.1 e).1
        exact HN.out j hj e)
      go_wp2_with fail
      go_ret
      exact ⟨by rw [HR.out]; rfl, rfl⟩

end Go.Proofs.YtjcnjnonhncelaaDoor
