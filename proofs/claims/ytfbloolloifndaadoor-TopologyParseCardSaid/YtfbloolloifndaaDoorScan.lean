/-
  topology.scan: what it returns, and what it stores.
-/
import Derived.Test.YtfbloolloifndaaDoorAtoi
import Derived.Test.YtfbloolloifndaaDoorErrs
import Derived.Test.YtfbloolloifndaaDoorNum
import Derived.IntWalk
import Derived.Maps.AppendAt
import Derived.Test.YtfbloolloifndaaDoorBuilder
namespace Go.Proofs.YtfbloolloifndaaDoor
open Go.RowKit Go.Sort
set_option linter.unusedSimpArgs false
set_option linter.unusedVariables false

/-- What a word says as a number. -/
def valW (x : List UInt8) : Option Int := match Lib.atoiAll x with | .ok v => some v | _ => none
theorem valW_some {x : List UInt8} {v : Int} : valW x = some v ↔ Lib.atoiAll x = .ok v := by
  unfold valW
  cases h : Lib.atoiAll x <;> simp
theorem valW_none {x : List UInt8} (h : valW x = none) : ∀ v, Lib.atoiAll x ≠ .ok v := fun v e => by rw [valW_some.2 e] at h; cases h
def valsW : List (List UInt8) → Option (List Int)
  | [] => some []
  | x :: r => match valW x, valsW r with | some v, some vs => some (v :: vs) | _, _ => none
theorem valsW_snoc : ∀ {l : List (List UInt8)} {vs : List Int} {x : List UInt8} {v : Int}, valsW l = some vs → valW x = some v → valsW (l ++ [x]) = some (vs ++ [v])
  | [], vs, x, v, h, hx => by simp [valsW] at h; subst h; simp [valsW, hx]
  | y :: r, vs, x, v, h, hx => by
    unfold valsW at h
    cases hy : valW y with
    | none => rw [hy] at h; simp at h
    | some u =>
      cases hr : valsW r with
      | none => rw [hy, hr] at h; simp at h
      | some us =>
        rw [hy, hr] at h
        simp at h
        subst h
        have := valsW_snoc hr hx
        simp [valsW, hy, this]
theorem valsW_none : ∀ {l : List (List UInt8)} {x : List UInt8}, x ∈ l → valW x = none → valsW l = none
  | y :: r, x, hm, hx => by
    rcases List.mem_cons.1 hm with rfl | hm
    · simp [valsW, hx]
    · have := valsW_none hm hx
      unfold valsW
      rw [this]
      cases valW y <;> rfl
theorem valsW_len : ∀ {l : List (List UInt8)} {vs : List Int}, valsW l = some vs → vs.length = l.length
  | [], vs, h => by simp [valsW] at h; subst h; rfl
  | y :: r, vs, h => by
    unfold valsW at h
    cases hy : valW y with
    | none => rw [hy] at h; simp at h
    | some u =>
      cases hr : valsW r with
      | none => rw [hy, hr] at h; simp at h
      | some us =>
        rw [hy, hr] at h
        simp at h
        subst h
        simp [valsW_len hr]
/-- The numbers of a line's words behind the first one, if there are as many as are asked. -/
def scanS (ws : List (List UInt8)) (m : Nat) : Option (List Int) := if ws.length = 1 + m then valsW ws.tail else none

def ints (l : List Int) : List Value := l.map (Value.int .i64)
/-- A call of scan: some numbers are stored; all of them where it returns true. -/
def RetScan (w : World) (pb : Nat) (old : List Int) (rest : List Value) (T : TypeId) (o : Option (List Int)) (e : Ending) (w' : World) : Prop :=
  ∃ new : List Int, new.length = old.length ∧ e = .returned (.bool o.isSome) ∧ (∀ vs, o = some vs → new = vs) ∧ w'.heap[pb]? = some (.cells (ints new ++ rest).toArray T (0, 0)) ∧ w.grownBy w' (some pb)
theorem set_mid (vk old : List Int) (rest : List Value) (k : Nat) (v : Int) (hk : vk.length = k) (ho : k < old.length) : (ints (vk ++ old.drop k) ++ rest).toArray.setIfInBounds k (.int .i64 v) = (ints ((vk ++ [v]) ++ old.drop (k + 1)) ++ rest).toArray := by
  rw [List.setIfInBounds_toArray]
  congr 1
  rw [List.drop_eq_getElem_cons ho]
  subst hk
  simp only [ints, List.map_append, List.map_cons, List.append_assoc, List.cons_append]
  rw [List.set_append_right _ _ (by simp)]
  simp

theorem grown_belowS {w w' : World} (hb : Below w.heap.size w w') (row : Option Nat) : w.grownBy w' row := ⟨hb.os, hb.tape, hb.output, hb.size, fun k hk _ => hb.block k hk⟩
theorem grown_setS (w : World) (b j : Nat) (u : Value) : w.grownBy (w.setCell ⟨b, j, none⟩ u) (some b) :=
  ⟨rfl, rfl, rfl, by simp, fun k _ hn => Below.heap_setCell _ _ _ _ (fun e => hn (by rw [e]))⟩
set_option maxRecDepth 100000 in
set_option maxHeartbeats 4000000 in
theorem topology_scan (Aw : Option Addr) (cw qb pb m : Nat) (ws : List (List UInt8)) (old : List Int) (rest : List Value) (T : TypeId) (w : World) (hold : old.length = m) (hm : m ≤ 100) (hwl : ws.length ≤ 100001) (hwb : ∀ x ∈ ws, x.length ≤ 1000000)
    (hW : ∀ w', w.grownBy w' (some pb) → ∀ (k : Nat) x, ws[k]? = some x → ∃ b o, Aw = some ⟨b, o, none⟩ ∧ w'.cell? ⟨b, o + k, none⟩ = some (.string ⟨x.toArray⟩))
    (hQ : ∀ w', w.grownBy w' (some pb) → ∀ k, k < m → w'.cell? ⟨qb, k, none⟩ = some (.pointer (some ⟨pb, k, none⟩)))
    (hE : ∀ w', w.grownBy w' (some pb) → Errs w') (hb : w.heap[pb]? = some (.cells (ints old ++ rest).toArray T (0, 0))) :
    Calls Tryd.prog 39 #[.slice Aw ws.length cw, .slice (some ⟨qb, 0, none⟩) m m] w (RetScan w pb old rest T (scanS ws m)) := by
  have HW := Lib.hid hW
  have HQ := Lib.hid hQ
  have HE := Lib.hid hE
  have HB := Lib.hid hb
  clear hW hQ hE hb
  have hg0 : w.grownBy w (some pb) := ⟨rfl, rfl, rfl, Nat.le_refl _, fun _ _ _ => rfl⟩
  by_cases hl : ws.length = 1 + m
  · have hl' : ((ws.length : Int) != 1 + (m : Int)) = false := by simp; omega
    have HL := Lib.hid hl
    have HG0 := Lib.hid hg0
    clear hl hg0
    go_enter Tryd.func39, Tryd.ntmps39
    go_wp2_with fail
    go_loopw [17] (fun iv wr => ∃ k : Nat, k ≤ m ∧ iv = .int .i64 (k : Int) ∧ Hid (∃ vk : List Int, vk.length = k ∧ valsW (ws.tail.take k) = some vk ∧ wr.heap[pb]? = some (.cells (ints (vk ++ old.drop k) ++ rest).toArray T (0, 0)) ∧ w.grownBy wr (some pb))) (fun iv _ => m - (intOf iv).toNat)
    case atStart => exact ⟨0, Nat.zero_le _, rfl, Lib.hid ⟨[], rfl, rfl, by simpa using HB.out, HG0.out⟩⟩
    case round =>
      obtain ⟨k, hk, rfl, HR⟩ := hrel
      obtain ⟨vk, hvl, hvk, hpb, hg⟩ := HR.out
      have HVL := Lib.hid hvl
      have HVK := Lib.hid hvk
      have HP := Lib.hid hpb
      have HG := Lib.hid hg
      clear HR hvl hvk hpb hg
      by_cases hlt : k < m
      · have hlt' : (k : Int) < (m : Int) := by omega
        have hx : ∃ x, ws[1 + k]? = some x := ⟨_, List.getElem?_eq_getElem (by have := HL.out; omega)⟩
        obtain ⟨x, hx⟩ := hx
        obtain ⟨b, o, rfl, hc⟩ := HW.out _ HG.out _ _ hx
        have hq := HQ.out _ HG.out k hlt
        have hin : (1 : Int) + (k : Int) < (ws.length : Int) := by have := HL.out; omega
        have hin0 : (0 : Int) ≤ 1 + (k : Int) := by omega
        have HX := Lib.hid hx
        have hxb := hwb x (List.mem_of_getElem? hx)
        have HTK : Hid (ws.tail.take (k + 1) = ws.tail.take k ++ [x]) := Lib.hid (by
          have hkt : k < ws.tail.length := by have := HL.out; simp; omega
          rw [List.take_succ_eq_append_getElem hkt]
          congr 2
          have h9 := HX.out
          rw [Nat.add_comm] at h9
          have h8 := (List.getElem?_eq_some_iff.1 h9).2
          simpa using h8)
        have hfr := Lib.frozen_of_heap HP.out k
        have hkc : ∃ u, wr.cell? ⟨pb, k, none⟩ = some u := by
          rw [Lib.cell_of_heap HP.out]
          exact ⟨_, Array.getElem?_eq_getElem (by simp [ints, HVL.out, hold]; omega)⟩
        clear hx
        cases hv : valW x with
        | some v =>
          have HA := Lib.hid (atoi_ok x v (valW_some.1 hv) hxb)
          have HVN := Lib.hid (valsW_snoc HVK.out hv)
          obtain ⟨u, hu⟩ := hkc
          clear hv
          have hkl : k < old.length := by rw [hold]; exact hlt
          go_wp2_with (go_at_call 48; refine (HA.out _).mono ?_; rintro e w1 ⟨rfl, hb1⟩; have HP1 := Lib.hid ((hb1.block _ (lt_of_heap HP.out)).trans HP.out); have HG1 := Lib.hid (HG.out.trans (grown_belowS hb1 (some pb))); replace hu := cell_up hb1 hu; clear hfr; have hfr := Lib.frozen_of_heap HP1.out k; clear hb1)
          go_roundw
          case rel => exact ⟨k + 1, by omega, by go_num, Lib.hid ⟨vk ++ [v], by simp [HVL.out], by rw [HTK.out]; exact HVN.out, (heap_setCell_same w1 pb k _ T (.int .i64 v) HP1.out).trans (by rw [set_mid vk old rest k v HVL.out hkl]), HG1.out.trans (grown_setS _ _ _ _)⟩⟩
          case measure => simp [intOf]; omega
        | none =>
          have HA := Lib.hid (atoi_bad x (valW_none hv) hxb)
          have HN : Hid (scanS ws m = none) := Lib.hid (by
            rw [scanS, if_pos HL.out]
            refine valsW_none (x := x) ?_ hv
            have h9 := HX.out
            rw [Nat.add_comm] at h9
            have : ws.tail[k]? = some x := by rw [List.getElem?_tail]; exact h9
            exact List.mem_of_getElem? this)
          clear hv hkc
          go_wp2_with (go_at_call 48; refine (HA.out _ (HE.out _ HG.out)).mono ?_; rintro e w1 ⟨n1, tp, pp, rfl, hb1⟩; have HP1 := Lib.hid ((hb1.block _ (lt_of_heap HP.out)).trans HP.out); have HG1 := Lib.hid (HG.out.trans (grown_belowS hb1 (some pb))); clear hb1)
          go_ret
          exact ⟨vk ++ old.drop k, by simp [HVL.out, hold]; omega, by rw [HN.out]; rfl, fun vs e => (by rw [HN.out] at e; cases e), HP1.out, HG1.out⟩
      · obtain rfl : k = m := by omega
        have HSc : Hid (scanS ws k = some vk) := Lib.hid (by
          rw [scanS, if_pos HL.out, ← HVK.out, List.take_of_length_le]
          have := HL.out; simp; omega)
        have HPk : Hid (wr.heap[pb]? = some (.cells (ints vk ++ rest).toArray T (0, 0))) := Lib.hid (by have h9 := HP.out; rw [List.drop_of_length_le (by omega), List.append_nil] at h9; exact h9)
        go_wp2_with fail
        go_ret
        exact ⟨vk, by rw [HVL.out, hold], by rw [HSc.out]; rfl, fun vs e => (by rw [HSc.out] at e; injection e), HPk.out, HG.out⟩
  · have hl' : ((ws.length : Int) != 1 + (m : Int)) = true := by simp; omega
    have HN : Hid (scanS ws m = none) := Lib.hid (by rw [scanS, if_neg hl])
    have HG0 := Lib.hid hg0
    clear hg0
    go_enter Tryd.func39, Tryd.ntmps39
    go_wp2_with fail
    go_ret
    exact ⟨old, rfl, by rw [HN.out]; rfl, fun vs e => (by rw [HN.out] at e; cases e), HB.out, HG0.out⟩

end Go.Proofs.YtfbloolloifndaaDoor
