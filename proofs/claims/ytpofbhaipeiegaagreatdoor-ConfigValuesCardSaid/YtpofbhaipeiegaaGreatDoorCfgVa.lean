/-
  ConfigValues: four numbers that came in; the law's closure; what config.Parse returns on its text.
-/
import Derived.Test.YtpofbhaipeiegaaGreatDoorCfgFi
import Derived.Test.YtpofbhaipeiegaaGreatDoorCfgVp
import Derived.Test.YtpofbhaipeiegaaGreatDoorNumber
import Derived.OpenShut
import Derived.WideShapes
import Derived.ChangeShapes
namespace Go.Proofs.YtpofbhaipeiegaaGreatDoor
set_option linter.unusedSimpArgs false
set_option linter.unusedVariables false
open Go.RowKit Go.Shelf Go.Sort Go.ChangeShapes Go.WideShapes Go.ChangeAt Go.OpenShut

section
variable {H : Type} {enc : TypeId × Value → H} {w : World} {base : Nat} {spare : Nat → Bool} {held : Bool}
theorem cells16 : Tryz.prog.cellsOf 22 = 1 := by kernel_rfl
theorem cells416 : Tryz.prog.cellsOf 23 = 4 := by kernel_rfl
theorem okArr16 {P : Program} {r : Reach} {b0 : Nat} {t e : TypeId} {n : Nat} {v : Value} (ht : P.underlying t = some (.array n e)) (h : Value.okWide P w r b0 t v) : ∃ cs, v = .agg cs ∧ cs.size = P.cellsOf t := by
  simp only [Value.okWide, ht] at h
  obtain ⟨cs, h1, h2, _⟩ := h
  exact ⟨cs, h1, h2⟩
set_option maxRecDepth 100000 in
/-- Four numbers of sixteen bits that came in. -/
theorem open_four16 {r : Reach} {b0 : Nat} {v : Value} {d : DataW H} {p : List MemPlace} (hv : Value.okWide Tryz.prog w r b0 23 v) (h : DataW.Trod enc Tryz.prog w base spare held 23 v d p) :
    ∃ a b c d : Int, v = .agg #[.int .i16 a, .int .i16 b, .int .i16 c, .int .i16 d] ∧ in16 a ∧ in16 b ∧ in16 c ∧ in16 d := by
  obtain ⟨cs, rfl, hsz⟩ := okArr16 Tryz.underlying23 hv
  rw [cells416] at hsz
  obtain ⟨fuel, hf⟩ := h
  obtain ⟨xs, m, _, _, _, hxl, hx⟩ := DataW.trod_array Tryz.underlying23 hf
  obtain ⟨l⟩ := cs
  match l, hsz with
  | [v0, v1, v2, v3], _ =>
    match xs, hxl with
    | [x0, x1, x2, x3], _ =>
      have f0 := hx 0 (by omega)
      have f1 := hx 1 (by omega)
      have f2 := hx 2 (by omega)
      have f3 := hx 3 (by omega)
      simp [cells16, Value.cells] at f0 f1 f2 f3
      obtain ⟨a, e0, _, wa⟩ := DataW.trod_int Tryz.underlying22 f0
      obtain ⟨b, e1, _, wb⟩ := DataW.trod_int Tryz.underlying22 f1
      obtain ⟨c, e2, _, wc⟩ := DataW.trod_int Tryz.underlying22 f2
      obtain ⟨d, e3, _, wd⟩ := DataW.trod_int Tryz.underlying22 f3
      simp only [List.cons.injEq, and_true] at e0 e1 e2 e3
      subst e0 e1 e2 e3
      exact ⟨a, b, c, d, rfl, bounds_i16 wa, bounds_i16 wb, bounds_i16 wc, bounds_i16 wd⟩
end
theorem numT_len {n : Int} (h : n.natAbs < 1000000000000) : (numT n).length ≤ 14 := by
  have := dec_len 11 n.natAbs (by omega)
  unfold numT
  split
  · simp; omega
  · omega
theorem itoa_len {n : Int} (h : n.natAbs < 1000000000000) : (Lib.itoa n).length ≤ 14 := by
  unfold Lib.itoa
  split
  · have := dec_len 11 n.natAbs (by omega)
    simp; omega
  · have := dec_len 11 n.toNat (by omega)
    omega
set_option maxHeartbeats 2000000 in
set_option maxRecDepth 100000 in
theorem law15_word (n : Int) (h : in16 n) (w : World) : Calls Tryz.prog 9 #[.int .i16 n] w fun e w' => e = .returned (.string ⟨(numT n).toArray⟩) ∧ Below w.heap.size w w' := by
  obtain ⟨h0, h1⟩ := h
  by_cases hn : n < 0
  · have HN : Hid (∀ W, Calls Tryz.prog 10 #[.int .i64 (-n)] W fun e w' => e = .returned (.string ⟨(Lib.decDigits n.natAbs).toArray⟩) ∧ Below W.heap.size W w') := Lib.hid fun W => by
      have := ref09_Number (-n) (by omega) (by omega) W
      rwa [show Lib.itoa (-n) = Lib.decDigits n.natAbs by unfold Lib.itoa; rw [if_neg (by omega), show (-n).toNat = n.natAbs by omega]] at this
    have hl := dec_len 11 n.natAbs (by omega)
    have ht : numT n = 45 :: 32 :: Lib.decDigits n.natAbs := by unfold numT; rw [if_pos hn]
    rw [ht]
    generalize Lib.decDigits n.natAbs = l at *
    have E : (⟨#[45, 32]⟩ : ByteArray) ++ ⟨l.toArray⟩ = ⟨(45 :: 32 :: l).toArray⟩ := str_app [45, 32] l
    go_enter Tryz.func9, Tryz.ntmps9
    go_wp2_with (go_at_call 10; refine (HN.out _).mono ?_; rintro e w1 ⟨rfl, hb⟩)
    go_ret
    exact ⟨rfl, hb⟩
  · have HN : Hid (∀ W, Calls Tryz.prog 10 #[.int .i64 n] W fun e w' => e = .returned (.string ⟨(Lib.decDigits n.natAbs).toArray⟩) ∧ Below W.heap.size W w') := Lib.hid fun W => by
      have := ref09_Number n (by omega) (by omega) W
      rwa [show Lib.itoa n = Lib.decDigits n.natAbs by unfold Lib.itoa; rw [if_neg (by omega), show n.toNat = n.natAbs by omega]] at this
    have ht : numT n = Lib.decDigits n.natAbs := by unfold numT; rw [if_neg hn]
    rw [ht]
    generalize Lib.decDigits n.natAbs = l at *
    go_enter Tryz.func9, Tryz.ntmps9
    go_wp2_with (go_at_call 10; refine (HN.out _).mono ?_; rintro e w1 ⟨rfl, hb⟩)
    go_ret
    exact ⟨rfl, hb⟩
/-- A call that returns a configuration with these timers, its form alone. -/
def RetTm (w : World) (t0 t1 t2 t3 t4 : Int) (e : Ending) (w' : World) : Prop :=
  (∃ a1 n1 k1 a2 n2 k2 m a3 n3 k3 a4 n4 k4 a5 n5 k5 a6 n6 k6 a7 n7 k7, e = .returned (.tuple #[.agg #[.slice a1 n1 k1, .slice a2 n2 k2, .int .i64 m, .slice a3 n3 k3, .slice a4 n4 k4, .slice a5 n5 k5, .slice a6 n6 k6, .slice a7 n7 k7, .int .i64 t0, .int .i64 t1, .int .i64 t2, .int .i64 t3, .int .i64 t4],
    .int .i64 0, .int .i64 0])) ∧ Below w.heap.size w w'
theorem RetCf.timers {w w' : World} {c : Cf} {e : Ending} (h : RetCf w (.ok c) e w') : RetTm w (c.tm.getD 0 0) (c.tm.getD 1 0) (c.tm.getD 2 0) (c.tm.getD 3 0) (c.tm.getD 4 0) e w' := by
  obtain ⟨h1, h2⟩ := h
  obtain ⟨r, rfl, _⟩ := h1
  obtain ⟨ao, no, co, e⟩ := confV_form r c
  rw [e]
  exact ⟨⟨_, _, _, _, _, _, _, _, _, _, _, _, _, _, _, _, _, _, _, _, _, _, rfl⟩, h2⟩
theorem values_Parse {a b c d : Int} (ha : in16 a) (hb : in16 b) (hc : in16 c) (hd : in16 d) (W : World) (hE : Errs W) (hT : Tab W.heap.size W) : Calls Tryz.prog 11 #[.string ⟨(valT a b c d).toArray⟩] W (RetTm W 10 35 5 20 9) := by
  obtain ⟨x, hx, htm⟩ := values_plain ha hb hc hd
  have hw := want_in ha hb hc hd
  have hl : (valT a b c d).length ≤ 9999 := by
    unfold in16 at *
    have := numT_len (n := a) (by omega)
    have := numT_len (n := b) (by omega)
    have := numT_len (n := c) (by omega)
    have := numT_len (n := d) (by omega)
    have := itoa_len (n := wantV a b c d) (by omega)
    simp [valT, v1T, v2T, v3T, v4T]
    omega
  refine (config_ParseS (valT a b c d) hl W hE hT).mono fun _ _ h => ?_
  rw [hx] at h
  have := h.timers
  rw [htm] at this
  exact this

end Go.Proofs.YtpofbhaipeiegaaGreatDoor
