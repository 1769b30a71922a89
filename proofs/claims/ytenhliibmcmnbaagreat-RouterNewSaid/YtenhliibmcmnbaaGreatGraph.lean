/-
  Contracts of package graph's small functions and of the two 'within': what each returns, for every topology in memory.
-/
import Derived.Test.YtenhliibmcmnbaaGreatBase
namespace Go.Proofs.YtenhliibmcmnbaaGreat
open Go.RowKit Go.Sort

theorem topology_within (n lo hi : Int) (w : World) :
    Calls Tryz.prog 122 #[.int .i64 n, .int .i64 lo, .int .i64 hi] w fun e w' => e = .returned (.bool (inR n lo hi)) ∧ w = w' := by
  by_cases h1 : lo ≤ n <;> by_cases h2 : n ≤ hi <;>
  (go_enter Tryz.func122, Tryz.ntmps122
   go_wp2
   go_ret
   simp [h1, h2, inR]) <;> omega

theorem ref09_within (n lo hi : Int) (w : World) :
    Calls Tryz.prog 53 #[.int .i64 n, .int .i64 lo, .int .i64 hi] w fun e w' => e = .returned (.bool (inR n lo hi)) ∧ w = w' := by
  by_cases h1 : lo ≤ n <;> by_cases h2 : n ≤ hi <;>
  (go_enter Tryz.func53, Tryz.ntmps53
   go_wp2
   go_ret
   simp [h1, h2, inR]) <;> omega

theorem graph_Node (n m : Int) (v1 v2 : Value) (w : World) :
    Calls Tryz.prog 67 #[.agg #[.int .i64 n, v1, v2], .int .i64 m] w fun e w' => e = .returned (.bool (isN n m)) ∧ Below w.heap.size w w' := by
  go_enter Tryz.func67, Tryz.ntmps67
  go_wp2 <;> (go_ret; refine ⟨by simp [isN] <;> omega, by go_grown⟩)

theorem graph_Arcs (v0 v1 : Value) (A2 : Option Addr) (n c2 : Nat) (w : World) (hn : n ≤ 100000) :
    Calls Tryz.prog 56 #[.agg #[v0, v1, .slice A2 n c2]] w fun e w' => e = .returned (.int .i64 (2 * (n : Int))) ∧ Below w.heap.size w w' := by
  go_enter Tryz.func56, Tryz.ntmps56
  go_wp2
  go_ret
  exact ⟨rfl, by go_grown⟩

theorem graph_Arc (v0 v1 : Value) (A2 : Option Addr) (n c2 : Nat) (a : Int) (w : World) (hn : n ≤ 100000) :
    Calls Tryz.prog 93 #[.agg #[v0, v1, .slice A2 n c2], .int .i64 a] w fun e w' => e = .returned (.bool (isN (2 * (n : Int)) a)) ∧ Below w.heap.size w w' := by
  by_cases h0 : 0 ≤ a
  · go_enter Tryz.func93, Tryz.ntmps93
    go_wp2_with (go_at_call 56; refine (graph_Arcs _ _ _ _ _ _ hn).mono ?_; rintro e w1 ⟨rfl, hb1⟩)
    go_ret
    exact ⟨by simp [h0, isN], below_next (below_box w _) hb1⟩
  · go_enter Tryz.func93, Tryz.ntmps93
    go_wp2_with fail
    go_ret
    exact ⟨by simp [isN]; omega, below_box w _⟩

theorem graph_Tail (v0 v1 : Value) (A2 : Option Addr) (c2 : Nat) (t : Topo) (a : Int) (w : World) (hA : RdL w A2 t.ls) (h0 : 0 ≤ a) (h1 : a < 2 * (t.ls.length : Int)) (hn : t.ls.length ≤ 100000) :
    Calls Tryz.prog 94 #[.agg #[v0, v1, .slice A2 t.ls.length c2], .int .i64 a] w fun e w' => e = .returned (.int .i64 (tail t a)) ∧ Below w.heap.size w w' := by
  obtain ⟨b, o, rfl, hc⟩ := hA.arc h0 h1
  have q0 := cell_up (below_box w (.cells #[v0, v1, .slice (some ⟨b, o, none⟩) t.ls.length c2] 25)) hc.q0
  have q1 := cell_up (below_box w (.cells #[v0, v1, .slice (some ⟨b, o, none⟩) t.ls.length c2] 25)) hc.q1
  have h2 : a / 2 < (t.ls.length : Int) := by omega
  have h3 : (0 : Int) ≤ a / 2 := by omega
  have HF : Hid (tail t a = if a % 2 = 0 then (lnk t a).a else (lnk t a).b) := Lib.hid rfl
  clear hA hc
  by_cases h : a % 2 = 0
  · have h' : (a % 2 == 0) = true := by simp [h]
    have HF2 := Lib.hid (HF.out.trans (if_pos h)); clear HF h
    go_enter Tryz.func94, Tryz.ntmps94
    go_wp2
    go_ret
    exact ⟨by rw [HF2.out]; rfl, below_box w _⟩
  · have h' : (a % 2 == 0) = false := by simp [h]
    have HF2 := Lib.hid (HF.out.trans (if_neg h)); clear HF h
    go_enter Tryz.func94, Tryz.ntmps94
    go_wp2
    go_ret
    exact ⟨by rw [HF2.out]; rfl, below_box w _⟩

theorem bits_xor_one (a : Int) (h0 : 0 ≤ a) (h1 : a < 1000000) : bits .xor .i64 a 1 = if a % 2 = 0 then a + 1 else a - 1 := by
  obtain ⟨k, rfl⟩ := Int.eq_ofNat_of_zero_le h0
  have hx : k ^^^ 1 < 2 ^ 63 := Nat.xor_lt_two_pow (by omega) (by omega)
  have e1 : (BitVec.ofInt 64 (k : Int)).toNat = k := by rw [BitVec.ofInt_natCast, BitVec.toNat_ofNat]; exact Nat.mod_eq_of_lt (by omega)
  show IntKind.i64.wrap ((BitVec.ofInt 64 (k : Int) ^^^ BitVec.ofInt 64 1).toNat : Int) = _
  rw [BitVec.toNat_xor, e1]
  have e2 : (BitVec.ofInt 64 (1 : Int)).toNat = 1 := by decide
  rw [e2, IntKind.wrap_i64]
  have e3 : k ^^^ 1 = if k % 2 = 0 then k + 1 else k - 1 := by
    have := Nat.xor_div_two (a := k) (b := 1)
    have h2 := Nat.xor_mod_two_eq_one (a := k) (b := 1)
    have h3 : k / 2 ^^^ 1 / 2 = k / 2 := by simp
    rw [h3] at this
    split <;> omega
  rw [e3]
  split <;> split <;> omega

theorem twin_lo {t : Topo} {a : Int} (h : a % 2 = 0) : tail t (a + 1) = head t a := by
  have e : (a + 1) / 2 = a / 2 := by omega
  have e2 : ¬ (a + 1) % 2 = 0 := by omega
  simp [tail, head, lnk, e, h, e2]
theorem twin_hi {t : Topo} {a : Int} (h : ¬ a % 2 = 0) : tail t (a - 1) = head t a := by
  have e : (a - 1) / 2 = a / 2 := by omega
  have e2 : (a - 1) % 2 = 0 := by omega
  simp [tail, head, lnk, e, h, e2]

theorem graph_Head (v0 v1 : Value) (A2 : Option Addr) (c2 : Nat) (t : Topo) (a : Int) (w : World) (hA : RdL w A2 t.ls) (h0 : 0 ≤ a) (h1 : a < 2 * (t.ls.length : Int)) (hn : t.ls.length ≤ 100000) :
    Calls Tryz.prog 76 #[.agg #[v0, v1, .slice A2 t.ls.length c2], .int .i64 a] w fun e w' => e = .returned (.int .i64 (head t a)) ∧ Below w.heap.size w w' := by
  have hx := bits_xor_one a h0 (by omega)
  have hb := below_box w (.cells #[v0, v1, .slice A2 t.ls.length c2] 25)
  by_cases h : a % 2 = 0
  · rw [if_pos h] at hx
    rw [← twin_lo h]
    have h2 : a + 1 < 2 * (t.ls.length : Int) := by omega
    clear h
    go_enter Tryz.func76, Tryz.ntmps76
    go_wp2_with (go_at_call 94; refine (graph_Tail _ _ _ _ t (a + 1) _ (hA.below hb) (by omega) (by omega) hn).mono ?_; rintro e w1 ⟨rfl, hb1⟩)
    go_ret
    exact ⟨rfl, below_next hb hb1⟩
  · rw [if_neg h] at hx
    rw [← twin_hi h]
    have h2 : 1 ≤ a := by omega
    clear h
    go_enter Tryz.func76, Tryz.ntmps76
    go_wp2_with (go_at_call 94; refine (graph_Tail _ _ _ _ t (a - 1) _ (hA.below hb) (by omega) (by omega) hn).mono ?_; rintro e w1 ⟨rfl, hb1⟩)
    go_ret
    exact ⟨rfl, below_next hb hb1⟩

theorem graph_Cost (v0 v1 : Value) (A2 : Option Addr) (c2 : Nat) (t : Topo) (a : Int) (w : World) (hA : RdL w A2 t.ls) (h0 : 0 ≤ a) (h1 : a < 2 * (t.ls.length : Int)) (hn : t.ls.length ≤ 100000) :
    Calls Tryz.prog 77 #[.agg #[v0, v1, .slice A2 t.ls.length c2], .int .i64 a] w fun e w' => e = .returned (.int .i64 (cost t a)) ∧ Below w.heap.size w w' := by
  obtain ⟨b, o, rfl, hc⟩ := hA.arc h0 h1
  have q2 := cell_up (below_box w (.cells #[v0, v1, .slice (some ⟨b, o, none⟩) t.ls.length c2] 25)) hc.q2
  have q3 := cell_up (below_box w (.cells #[v0, v1, .slice (some ⟨b, o, none⟩) t.ls.length c2] 25)) hc.q3
  have h2 : a / 2 < (t.ls.length : Int) := by omega
  have h3 : (0 : Int) ≤ a / 2 := by omega
  have HF : Hid (cost t a = if a % 2 = 0 then (lnk t a).c0 else (lnk t a).c1) := Lib.hid rfl
  clear hA hc
  by_cases h : a % 2 = 0
  · have HF2 := Lib.hid (HF.out.trans (if_pos h)); clear HF
    go_enter Tryz.func77, Tryz.ntmps77
    go_wp2
    go_ret
    exact ⟨by rw [HF2.out]; rfl, below_box w _⟩
  · have h' : a % 2 = 1 := by omega
    have HF2 := Lib.hid (HF.out.trans (if_neg h)); clear HF h
    go_enter Tryz.func77, Tryz.ntmps77
    go_wp2
    go_ret
    exact ⟨by rw [HF2.out]; rfl, below_box w _⟩

theorem graph_Over (v0 v2 : Value) (A1 : Option Addr) (c1 : Nat) (t : Topo) (n : Int) (w : World) (hA : Rd w A1 (t.ov.map Value.bool)) (h0 : 0 ≤ n) (h1 : t.ov.length = 0 ∨ n < (t.ov.length : Int)) :
    Calls Tryz.prog 71 #[.agg #[v0, .slice A1 t.ov.length c1, v2], .int .i64 n] w fun e w' => e = .returned (.bool (over t n)) ∧ Below w.heap.size w w' := by
  by_cases he : t.ov.length = 0
  · have HF : Hid (over t n = false) := Lib.hid (by simp [over, List.eq_nil_of_length_eq_zero he])
    rw [he]
    clear hA h1 he
    go_enter Tryz.func71, Tryz.ntmps71
    go_wp2
    go_ret
    exact ⟨by rw [HF.out]; rfl, below_box w _⟩
  · have hn : n < (t.ov.length : Int) := by omega
    have hl : n.toNat < t.ov.length := by omega
    have hu : (t.ov.map Value.bool)[n.toNat]? = some (.bool (over t n)) := by
      simp [over, List.getElem?_eq_getElem hl, List.getD_eq_getElem?_getD]
    obtain ⟨b, o, rfl, hc⟩ := hA.at_ hu
    have q0 := cell_up (below_box w (.cells #[v0, .slice (some ⟨b, o, none⟩) t.ov.length c1, v2] 25)) hc
    have hp : decide ((0 : Int) < (t.ov.length : Int)) = true := by simp; omega
    generalize over t n = x at *
    generalize t.ov.length = m at *
    clear hA hc hu h1 he
    go_enter Tryz.func71, Tryz.ntmps71
    go_wp2
    go_ret
    exact ⟨rfl, below_box w _⟩

end Go.Proofs.YtenhliibmcmnbaaGreat
