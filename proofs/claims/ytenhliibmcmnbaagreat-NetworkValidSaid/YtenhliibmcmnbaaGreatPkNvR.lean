/-
  The methods of a network that has just been made.
  waypointlaw54.NetworkValid: the walk (plain parts first).
  From 'the arguments read as data' to what the walks ask: integers, lists of integers, bools, links; topologies.
  From 'the arguments read as data' to what the walks ask: the law's setup.
-/
import Derived.Test.YtenhliibmcmnbaaGreatNvQ
import Derived.Test.YtenhliibmcmnbaaGreatNvM
import Derived.Test.YtenhliibmcmnbaaGreatPkBase
import Derived.Deep.Slices
import Derived.OpenShut
import Derived.ProofKit
import Derived.Lib.SmallJoins
namespace Go.Proofs.YtenhliibmcmnbaaGreat
set_option linter.unusedSimpArgs false
set_option linter.unusedVariables false
open Go.RowKit Go.Sort
section
variable {w : World}
theorem NetAt.up {n : Int} {nb : Nat} {w w' : World} (h : NetAt n nb w) (hb : Below w.heap.size w w') : NetAt n nb w' := by
 obtain ⟨a1, a2, a3, a4, a5, a6, a7, a8, a9, a10, a11, a12, a14, a15, a16, a17, a18, a19, a20, a22, a24, h⟩ := h
 exact ⟨a1, a2, a3, a4, a5, a6, a7, a8, a9, a10, a11, a12, a14, a15, a16, a17, a18, a19, a20, a22, a24, h.up hb⟩
theorem NetAt.cells {n : Int} {nb : Nat} {w : World} (h : NetAt n nb w) : ∃ a1 a2 : Value, w.cell? ⟨nb, 0, none⟩ = some (.int .i64 n) ∧ w.cell? ⟨nb, 1, none⟩ = some a1 ∧ w.cell? ⟨nb, 2, none⟩ = some a2 ∧ w.cell? ⟨nb, 13, none⟩ = some (.int .i64 0) ∧ w.cell? ⟨nb, 21, none⟩ = some (.slice none 0 0) ∧ w.cell? ⟨nb, 23, none⟩ = some (.slice none 0 0) := by
 obtain ⟨a1, a2, a3, a4, a5, a6, a7, a8, a9, a10, a11, a12, a14, a15, a16, a17, a18, a19, a20, a22, a24, h⟩ := h
 exact ⟨a1, a2, h.cell 0 rfl, h.cell 1 rfl, h.cell 2 rfl, h.cell 13 rfl, h.cell 21 rfl, h.cell 23 rfl⟩
set_option maxHeartbeats 1000000 in
theorem net_Run0 {n : Int} {nb : Nat} (h : NetAt n nb w) : Calls Tryz.prog 24 #[.pointer (some ⟨nb, 0, none⟩), .int .i64 0] w fun e w' => e = .returned (.int .i64 0) ∧ w = w' := by
 obtain ⟨a1, a2, c0, c1, c2, c13, c21, c23⟩ := h.cells
 clear h c0 c1 c2 c21 c23
 go_enter Tryz.func24, Tryz.ntmps24
 go_wp2_with fail
 go_loopw [] (fun wr => wr = w) (fun _ => 0)
 case atStart => rfl
 case round =>
  subst hrel
  go_wp2_with fail
  go_ret
  exact ⟨rfl, rfl⟩
set_option maxHeartbeats 1000000 in
theorem net_RunBad {n : Int} {nb : Nat} {u : Int} (hu : u < 0 ∨ 1073741824 < u) (h : NetAt n nb w) : Calls Tryz.prog 24 #[.pointer (some ⟨nb, 0, none⟩), .int .i64 u] w fun e w' => e = .returned (.int .i64 1) ∧ w = w' := by
 obtain ⟨a1, a2, c0, c1, c2, c13, c21, c23⟩ := h.cells
 clear h c0 c1 c2 c21 c23
 by_cases h0 : u < 0
 ·go_enter Tryz.func24, Tryz.ntmps24
  go_wp2_with fail
  go_ret
  exact ⟨rfl, rfl⟩
 ·have h1 : 1073741824 < u := by omega
  clear hu
  go_enter Tryz.func24, Tryz.ntmps24
  go_wp2_with fail
  go_ret
  exact ⟨rfl, rfl⟩
set_option maxHeartbeats 1000000 in
theorem net_Time0 {n : Int} {nb : Nat} (h : NetAt n nb w) : Calls Tryz.prog 25 #[.pointer (some ⟨nb, 0, none⟩)] w fun e w' => e = .returned (.int .i64 0) ∧ w = w' := by
 obtain ⟨a1, a2, c0, c1, c2, c13, c21, c23⟩ := h.cells
 clear h c0 c1 c2 c21 c23
 go_enter Tryz.func25, Tryz.ntmps25
 go_wp2_with fail
 go_ret
 exact ⟨rfl, rfl⟩
set_option maxHeartbeats 1000000 in
theorem net_Trace0 {n : Int} {nb : Nat} (h : NetAt n nb w) : Calls Tryz.prog 26 #[.pointer (some ⟨nb, 0, none⟩)] w fun e w' => e = .returned (.slice none 0 0) ∧ w = w' := by
 obtain ⟨a1, a2, c0, c1, c2, c13, c21, c23⟩ := h.cells
 clear h c0 c1 c2 c13 c21
 go_enter Tryz.func26, Tryz.ntmps26
 go_wp2_with (go_at_call 66; refine (clone0_Trace _ _).mono ?_; rintro e w' ⟨rfl, rfl⟩)
 go_ret
 exact ⟨rfl, rfl⟩
set_option maxHeartbeats 1000000 in
theorem index_nilC (a b : Int) : Calls Tryz.prog 133 #[.slice none 0 0, .agg #[.int .i64 a, .int .i64 b]] w fun e w' => e = .returned (.int .i64 (-1)) ∧ Below w.heap.size w w' := by
 have HB := Lib.hid (below_box w (.cells #[.int .i64 a, .int .i64 b] 125))
 go_enter Tryz.func133, Tryz.ntmps133
 go_wp2_with fail
 go_loopg [8] 0 (fun gg i wx => i = .int .i64 0 ∧ Hid (Below w.heap.size w wx))
 case atStart => exact ⟨rfl, HB⟩
 case round =>
  obtain ⟨rfl, HW⟩ := hrel
  go_wp2_with fail
  go_ret
  exact ⟨rfl, HW.out⟩
set_option maxHeartbeats 1000000 in
theorem contains_nilC (a b : Int) : Calls Tryz.prog 68 #[.slice none 0 0, .agg #[.int .i64 a, .int .i64 b]] w fun e w' => e = .returned (.bool false) ∧ Below w.heap.size w w' := by
 have HB := Lib.hid (below_box w (.cells #[.int .i64 a, .int .i64 b] 125))
 go_enter Tryz.func68, Tryz.ntmps68
 go_wp2_with (go_at_call 133; (with_reducible refine (index_nilC a b).mono ?_); rintro e w5 ⟨rfl, hb⟩; have HB5 := Lib.hid (below_next HB.out hb); clear hb)
 go_ret
 exact ⟨rfl, HB5.out⟩
set_option maxHeartbeats 2000000 in
theorem net_Alive0 {n : Int} {nb : Nat} (m : Int) (h : NetAt n nb w) : Calls Tryz.prog 29 #[.pointer (some ⟨nb, 0, none⟩), .int .i64 m] w fun e w' => e = .returned (.bool (isN n m)) ∧ Below w.heap.size w w' := by
 have H := Lib.hid h
 obtain ⟨a1, a2, c0, c1, c2, c13, c21, c23⟩ := h.cells
 clear h c13 c21 c23
 cases hv : isN n m with
 | false =>
  have HV := Lib.hid hv
  clear hv
  go_enter Tryz.func29, Tryz.ntmps29
  go_wp2_with (go_at_call 67; (with_reducible refine (graph_Node n m _ _ _).mono ?_); rw [HV.out]; rintro e w5 ⟨rfl, hb⟩; have HB5 := Lib.hid hb; clear hb c0 c1 c2)
  go_ret
  exact ⟨rfl, HB5.out⟩
 | true =>
  have HV := Lib.hid hv
  clear hv
  go_enter Tryz.func29, Tryz.ntmps29
  go_wp2_with first | (go_at_call 67; (with_reducible refine (graph_Node n m _ _ _).mono ?_); rw [HV.out]; rintro e w5 ⟨rfl, hb⟩; have HB5 := Lib.hid hb; obtain ⟨d1, d2, -, -, -, -, c21, -⟩ := (H.out.up hb).cells; clear hb c0 c1 c2) | (go_at_call 68; (with_reducible refine (contains_nilC 2 m).mono ?_); rintro e w6 ⟨rfl, hb⟩; have HB6 := Lib.hid (below_next HB5.out hb); clear hb)
  go_ret
  exact ⟨rfl, HB6.out⟩
end
end Go.Proofs.YtenhliibmcmnbaaGreat
namespace Go.Proofs.YtenhliibmcmnbaaGreat
set_option linter.unusedSimpArgs false
set_option linter.unusedVariables false
open Go.RowKit Go.Sort
theorem ftOk_map (L : List FtL) : ftOk L = (L.map (·.2.2)).all (fun l => l.all fateOk) := by
 unfold ftOk
 rw [List.all_map]
 rfl
theorem ftOk_same {L L' : List FtL} (h : L'.map (·.2.2) = L.map (·.2.2)) : ftOk L' = ftOk L := by rw [ftOk_map, ftOk_map, h]
theorem len_same {L L' : List FtL} (h : L'.map (·.2.2) = L.map (·.2.2)) : L'.length = L.length := by
 have := congrArg List.length h
 simpa using this
theorem suOk_same {u : SuN} {L1 L2 : List FtL} (h1 : L1.map (·.2.2) = u.ctl.map (·.2.2)) (h2 : L2.map (·.2.2) = u.dat.map (·.2.2)) : suOk { u with ctl := L1, dat := L2 } = suOk u := by
 simp only [suOk, ftOk_same h1, ftOk_same h2, len_same h1, len_same h2]
/-- What few says. -/
theorem fewB_true {u : SuN} (h : fewB u = true) : u.t.n ≤ 70 ∧ u.t.ov.length ≤ 70 ∧ u.t.ls.length ≤ 300 ∧ u.acs.length ≤ 40 ∧ u.ctl.length ≤ 600 ∧ u.dat.length ≤ 600 ∧ (∀ x ∈ u.ctl, x.2.2.length ≤ 20) ∧ (∀ x ∈ u.dat, x.2.2.length ≤ 20) ∧ ∀ a ∈ u.acs, a.sn ≤ 40 := by
 simp only [fewB, Bool.and_eq_true, decide_eq_true_eq, List.all_eq_true] at h
 obtain ⟨⟨⟨⟨⟨⟨⟨⟨a, b⟩, c⟩, d⟩, e⟩, f⟩, g⟩, i⟩, j⟩ := h
 exact ⟨a, b, c, d, e, f, g, i, j⟩
theorem own_les {u : SuN} {L1 L2 : List FtL} (h : u.t.n ≤ 70 ∧ u.t.ov.length ≤ 70 ∧ u.t.ls.length ≤ 300 ∧ u.acs.length ≤ 40 ∧ u.ctl.length ≤ 600 ∧ u.dat.length ≤ 600 ∧ (∀ x ∈ u.ctl, x.2.2.length ≤ 20) ∧ (∀ x ∈ u.dat, x.2.2.length ≤ 20) ∧ ∀ a ∈ u.acs, a.sn ≤ 40) (h1 : L1.map (·.2.2) = u.ctl.map (·.2.2)) (h2 : L2.map (·.2.2) = u.dat.map (·.2.2)) :
  u.t.ls.length ≤ 1000 ∧ L1.length ≤ 1000 ∧ L2.length ≤ 1000 ∧ u.acs.length ≤ 1000 ∧ ∀ a ∈ u.acs, a.sn ≤ 1000 := by
 obtain ⟨a, b, c, d, e, f, -, -, j⟩ := h
 rw [len_same h1, len_same h2]
 exact ⟨by omega, by omega, by omega, by omega, fun x hx => Nat.le_trans (j x hx) (by omega)⟩
theorem fld_Fc4 (a b c d e f g : Value) (w : World) : (Instr.field 81 (.agg #[a, b, c, d, e, f, g]) 4).run Tryz.prog w = .ok g w := by kernel_rfl
/-- A setup that lies in memory, ahead of what few says. -/
structure RawAt (w : World) (A1 A2 C D S : Option Addr) (u : SuN) : Prop where
 t : TAt w A1 A2 u.t
 c : Rd w C (u.ctl.map ftV)
 ce : ∀ x ∈ u.ctl, Rd w x.1 (x.2.2.flatMap fateV)
 d : Rd w D (u.dat.map ftV)
 de : ∀ x ∈ u.dat, Rd w x.1 (x.2.2.flatMap fateV)
 s : Rd w S (u.acs.flatMap acV)
 st : StAt w u.acs
theorem RawAt.below {w w' : World} {A1 A2 C D S : Option Addr} {u : SuN} (h : RawAt w A1 A2 C D S u) (hb : Below w.heap.size w w') : RawAt w' A1 A2 C D S u :=
 ⟨h.t.below hb, h.c.below hb, fun x hx => (h.ce x hx).below hb, h.d.below hb, fun x hx => (h.de x hx).below hb, h.s.below hb, h.st.below hb⟩
theorem RawAt.su {w : World} {A1 A2 C D S : Option Addr} {u : SuN} (h : RawAt w A1 A2 C D S u) (hf : fewB u = true) : SuAt w A1 A2 C D S u := by
 obtain ⟨-, -, -, -, -, -, f1, f2, -⟩ := fewB_true hf
 exact ⟨h.t, ⟨h.c, fun x hx => ⟨h.ce x hx, Nat.le_trans (f1 x hx) (by omega)⟩⟩, ⟨h.d, fun x hx => ⟨h.de x hx, Nat.le_trans (f2 x hx) (by omega)⟩⟩, h.s⟩
section
variable {w : World}
/-- The law's box. -/
structure LN (w : World) (A1 A2 C D S : Option Addr) (k1 k2 k3 k4 k5 : Nat) (u : SuN) (b : Nat) (Y : World) : Prop where
 b : Bl 61 b (suC u A1 A2 C D S k1 k2 k3 k4 k5) Y
 r : RawAt Y A1 A2 C D S u
 hb : Below w.heap.size w Y
theorem LN.up {A1 A2 C D S : Option Addr} {k1 k2 k3 k4 k5 b : Nat} {u : SuN} {Y Z : World} (h : LN w A1 A2 C D S k1 k2 k3 k4 k5 u b Y) (hb : Below Y.heap.size Y Z) : LN w A1 A2 C D S k1 k2 k3 k4 k5 u b Z :=
 ⟨h.b.up hb, h.r.below hb, below_next h.hb hb⟩
theorem LN.cells {A1 A2 C D S : Option Addr} {k1 k2 k3 k4 k5 b : Nat} {u : SuN} {w9 : World} (h : LN w A1 A2 C D S k1 k2 k3 k4 k5 u b w9) : w9.cell? ⟨b, 0, none⟩ = some (.int .i64 u.t.n) ∧ w9.cell? ⟨b, 1, none⟩ = some (.slice A1 u.t.ov.length k1) ∧ w9.cell? ⟨b, 2, none⟩ = some (.slice A2 u.t.ls.length k2) ∧ w9.cell? ⟨b, 3, none⟩ = some (.int .i64 u.h1) ∧ w9.cell? ⟨b, 4, none⟩ = some (.int .i64 u.h2) ∧ w9.cell? ⟨b, 5, none⟩ = some (.int .i64 u.h3) ∧ w9.cell? ⟨b, 6, none⟩ = some (.int .i64 u.g) ∧ w9.cell? ⟨b, 7, none⟩ = some (.int .i64 u.s) ∧ w9.cell? ⟨b, 8, none⟩ = some (.int .i64 u.det) ∧ w9.cell? ⟨b, 9, none⟩ = some (.int .i64 u.room) ∧ w9.cell? ⟨b, 10, none⟩ = some (.slice C u.ctl.length k3) ∧ w9.cell? ⟨b, 11, none⟩ = some (.slice D u.dat.length k4) ∧ w9.cell? ⟨b, 12, none⟩ = some (.slice S u.acs.length k5) := by
 obtain ⟨b0, b1, b2, b3, b4, b5, b6, b7, b8, b9, b10, b11, b12, fb⟩ := (show Bl 61 b #[_, _, _, _, _, _, _, _, _, _, _, _, _] _ from h.b).c13
 exact ⟨b0, b1, b2, b3, b4, b5, b6, b7, b8, b9, b10, b11, b12⟩
set_option maxRecDepth 100000 in
set_option maxHeartbeats 4000000 in
theorem law_NetworkValid (u : SuN) (m : Int) (A1 A2 C D S : Option Addr) (k1 k2 k3 k4 k5 : Nat) (hR : RawAt w A1 A2 C D S u) :
  Calls Tryz.prog 4 #[.agg (suC u A1 A2 C D S k1 k2 k3 k4 k5), .int .i64 m] w fun e w' => e = .returned (.bool true) ∧ Below w.heap.size w w' := by
 have HL0 := Lib.hid (show LN w A1 A2 C D S k1 k2 k3 k4 k5 u w.heap.size (w.alloc (.cells (suC u A1 A2 C D S k1 k2 k3 k4 k5) 61)) from ⟨Bl.new w _ _, hR.below (below_box _ _), below_box _ _⟩)
 clear hR
 obtain ⟨fw, hfw⟩ : ∃ x, x = fewB u := ⟨_, rfl⟩
 obtain ⟨ok, hok⟩ : ∃ x, x = suOk u := ⟨_, rfl⟩
 have HFW := Lib.hid hfw
 have HOK := Lib.hid hok
 clear hfw hok
 have ff := fld_Fc4
 go_enter Tryz.func4, Tryz.ntmps4
 go_upto_region 1 with fail
 refine wp_named2 (fun Y => ∃ b, b = w.heap.size ∧ LN w A1 A2 C D S k1 k2 k3 k4 k5 u b Y) ⟨_, rfl, HL0.out⟩ ?_
 rintro Y ⟨b, hb, hL⟩
 rw [← hb]
 have HL := Lib.hid hL
 clear hb hL HL0
 go_upto_region 3 with (first | (go_at_call 19; (with_reducible refine law_pair.mono ?_); rintro e w1 ⟨P2, kp2, rfl, hp, hb⟩; replace HL := Lib.hid (HL.out.up hb); have HP := Lib.hid hp; clear hp hb) | (go_at_call 18; (with_reducible refine (net_Valid uPair none P2 none none none 0 kp2 0 0 0 HP.out (by decide) (by decide) (by decide) (by decide) (by decide)).mono ?_); rintro e w2 ⟨rfl, hb⟩; rw [uPair_ok]; replace HL := Lib.hid (HL.out.up hb); clear hb HP))
 obtain ⟨b0, b1, b2, b3, b4, b5, b6, b7, b8, b9, b10, b11, b12, fb⟩ := (show Bl 61 b #[_, _, _, _, _, _, _, _, _, _, _, _, _] _ from HL.out.b).c13
 cases fw with
 | false =>
  go_wp2_with (go_at_call 20; (refine (law_few u A1 A2 C D S k1 k2 k3 k4 k5 HL.out.r.c HL.out.r.d HL.out.r.s).mono ?_); rintro e w3 ⟨rfl, hb⟩; rw [← HFW.out]; replace HL := Lib.hid (HL.out.up hb); clear hb)
  go_ret
  exact ⟨rfl, HL.out.hb⟩
 | true =>
  have HF := Lib.hid (fewB_true HFW.out.symm)
  go_upto_region 5 with (go_at_call 20; (refine (law_few u A1 A2 C D S k1 k2 k3 k4 k5 HL.out.r.c HL.out.r.d HL.out.r.s).mono ?_); rintro e w3 ⟨rfl, hb⟩; rw [← HFW.out]; replace HL := Lib.hid (HL.out.up hb); clear hb b0 b1 b2 b3 b4 b5 b6 b7 b8 b9 b10 b11 b12 fb; obtain ⟨b0, b1, b2, b3, b4, b5, b6, b7, b8, b9, b10, b11, b12, fb⟩ := (show Bl 61 b #[_, _, _, _, _, _, _, _, _, _, _, _, _] _ from HL.out.b).c13)
  cases ok with
  | false =>
   go_upto_region 7 with (first | (go_at_call 22; (refine (law_own u A1 A2 C D S k1 k2 k3 k4 k5 (HL.out.r.su HFW.out.symm) HF.out.2.2.2.2.1 HF.out.2.2.2.2.2.1 HF.out.2.2.2.2.2.2.1 HF.out.2.2.2.2.2.2.2.1 HF.out.2.2.2.1).mono ?_); rintro e w4 ⟨C', D', S', q3, q4, q5, L1, L2, rfl, hm1, hm2, hu, hb⟩; replace HL := Lib.hid (HL.out.up hb); have HM1 := Lib.hid hm1; have HM2 := Lib.hid hm2; have HU := Lib.hid hu; clear hm1 hm2 hu; clear hb b0 b1 b2 b3 b4 b5 b6 b7 b8 b9 b10 b11 b12 fb; obtain ⟨b0, b1, b2, b3, b4, b5, b6, b7, b8, b9, b10, b11, b12, fb⟩ := (show Bl 61 b #[_, _, _, _, _, _, _, _, _, _, _, _, _] _ from HL.out.b).c13) | (go_at_call 21; (refine (net_New_bad { u with ctl := L1, dat := L2 } A1 A2 C' D' S' k1 k2 q3 q4 q5 HU.out HL.out.r.st (own_les HF.out HM1.out HM2.out).1 (own_les HF.out HM1.out HM2.out).2.1 (own_les HF.out HM1.out HM2.out).2.2.1 (own_les HF.out HM1.out HM2.out).2.2.2.1 (own_les HF.out HM1.out HM2.out).2.2.2.2 ((suOk_same HM1.out HM2.out).trans HOK.out.symm)).mono ?_); rintro e w5 ⟨rfl, hb⟩; replace HL := Lib.hid (HL.out.up hb); clear HU HM1 HM2; clear hb b0 b1 b2 b3 b4 b5 b6 b7 b8 b9 b10 b11 b12 fb; obtain ⟨b0, b1, b2, b3, b4, b5, b6, b7, b8, b9, b10, b11, b12, fb⟩ := (show Bl 61 b #[_, _, _, _, _, _, _, _, _, _, _, _, _] _ from HL.out.b).c13))
   clear b0 b1 b2 b3 b4 b5 b6 b7 b8 b9 b10 b11 b12 fb
   replace HL := Lib.hid (HL.out.up (Bdrw (Below.refl _ _)))
   go_region_held3 (fun w9 => w9.cell? ⟨b, 0, none⟩ = some (.int .i64 u.t.n) ∧ w9.cell? ⟨b, 1, none⟩ = some (.slice A1 u.t.ov.length k1) ∧ w9.cell? ⟨b, 2, none⟩ = some (.slice A2 u.t.ls.length k2) ∧ w9.cell? ⟨b, 3, none⟩ = some (.int .i64 u.h1) ∧ w9.cell? ⟨b, 4, none⟩ = some (.int .i64 u.h2) ∧ w9.cell? ⟨b, 5, none⟩ = some (.int .i64 u.h3) ∧ w9.cell? ⟨b, 6, none⟩ = some (.int .i64 u.g) ∧ w9.cell? ⟨b, 7, none⟩ = some (.int .i64 u.s) ∧ w9.cell? ⟨b, 8, none⟩ = some (.int .i64 u.det) ∧ w9.cell? ⟨b, 9, none⟩ = some (.int .i64 u.room) ∧ w9.cell? ⟨b, 10, none⟩ = some (.slice C u.ctl.length k3) ∧ w9.cell? ⟨b, 11, none⟩ = some (.slice D u.dat.length k4) ∧ w9.cell? ⟨b, 12, none⟩ = some (.slice S u.acs.length k5))
    (exact HL.out.cells)
    (first | (go_at_call 22; (refine (law_own u A1 A2 C D S k1 k2 k3 k4 k5 (HL.out.r.su HFW.out.symm) HF.out.2.2.2.2.1 HF.out.2.2.2.2.2.1 HF.out.2.2.2.2.2.2.1 HF.out.2.2.2.2.2.2.2.1 HF.out.2.2.2.1).mono ?_); rintro e wo ⟨C7, D7, S7, r3, r4, r5, M1, M2, rfl, hm1, hm2, hu, hb⟩; replace HL := Lib.hid (HL.out.up hb); have HM1 := Lib.hid hm1; have HM2 := Lib.hid hm2; have HU := Lib.hid hu;  clear hb hm1 hm2 hu) | (go_at_call 18; (refine (net_Valid { u with ctl := M1, dat := M2 } A1 A2 C7 D7 S7 k1 k2 r3 r4 r5 HU.out (own_les HF.out HM1.out HM2.out).1 (own_les HF.out HM1.out HM2.out).2.1 (own_les HF.out HM1.out HM2.out).2.2.1 (own_les HF.out HM1.out HM2.out).2.2.2.1 (own_les HF.out HM1.out HM2.out).2.2.2.2).mono ?_); rintro e wv ⟨rfl, hb⟩; rw [(suOk_same HM1.out HM2.out).trans HOK.out.symm]; replace HL := Lib.hid (HL.out.up hb);  clear hb HM1 HM2 HU) | (go_at_call 23; (refine (ref54_Valid u A1 A2 C D S k1 k2 k3 k4 k5 (HL.out.r.su HFW.out.symm) (own_les HF.out rfl rfl).1 (own_les HF.out rfl rfl).2.1 (own_les HF.out rfl rfl).2.2.1 (own_les HF.out rfl rfl).2.2.2.1 (own_les HF.out rfl rfl).2.2.2.2).mono ?_); rintro e wr ⟨rfl, hb⟩; rw [← HOK.out]; replace HL := Lib.hid (HL.out.up hb);  clear hb) | (go_at_call 24; (refine nilN_Run.mono ?_); rintro e wn ⟨rfl, hb⟩; replace HL := Lib.hid (HL.out.up hb);  clear hb) | (go_at_call 25; (refine nilN_Time.mono ?_); rintro e wn ⟨rfl, hb⟩; replace HL := Lib.hid (HL.out.up hb);  clear hb) | (go_at_call 26; (refine nilN_Trace.mono ?_); rintro e wn ⟨rfl, hb⟩; replace HL := Lib.hid (HL.out.up hb);  clear hb) | (go_at_call 27; (refine nilN_Tables.mono ?_); rintro e wn ⟨rfl, hb⟩; replace HL := Lib.hid (HL.out.up hb);  clear hb) | (go_at_call 28; (refine nilN_States.mono ?_); rintro e wn ⟨rfl, hb⟩; replace HL := Lib.hid (HL.out.up hb);  clear hb) | (go_at_call 29; (refine nilN_Alive.mono ?_); rintro e wn ⟨rfl, hb⟩; replace HL := Lib.hid (HL.out.up hb);  clear hb) | (go_at_call 30; (refine nilN_Facts.mono ?_); rintro e wn ⟨rfl, hb⟩; replace HL := Lib.hid (HL.out.up hb);  clear hb))
   obtain ⟨b0, b1, b2, b3, b4, b5, b6, b7, b8, b9, b10, b11, b12⟩ := HL.out.cells
   go_wp2_with (go_at_call 23; (refine (ref54_Valid u A1 A2 C D S k1 k2 k3 k4 k5 (HL.out.r.su HFW.out.symm) (own_les HF.out rfl rfl).1 (own_les HF.out rfl rfl).2.1 (own_les HF.out rfl rfl).2.2.1 (own_les HF.out rfl rfl).2.2.2.1 (own_les HF.out rfl rfl).2.2.2.2).mono ?_); rintro e wr ⟨rfl, hb⟩; rw [← HOK.out]; replace HL := Lib.hid (HL.out.up hb);  clear hb b0 b1 b2 b3 b4 b5 b6 b7 b8 b9 b10 b11 b12; obtain ⟨b0, b1, b2, b3, b4, b5, b6, b7, b8, b9, b10, b11, b12⟩ := HL.out.cells)
   go_ret
   exact ⟨rfl, HL.out.hb⟩
  | true =>
   go_upto_region 7 with (first | (go_at_call 22; (refine (law_own u A1 A2 C D S k1 k2 k3 k4 k5 (HL.out.r.su HFW.out.symm) HF.out.2.2.2.2.1 HF.out.2.2.2.2.2.1 HF.out.2.2.2.2.2.2.1 HF.out.2.2.2.2.2.2.2.1 HF.out.2.2.2.1).mono ?_); rintro e w4 ⟨C', D', S', q3, q4, q5, L1, L2, rfl, hm1, hm2, hu, hb⟩; replace HL := Lib.hid (HL.out.up hb); have HM1 := Lib.hid hm1; have HM2 := Lib.hid hm2; have HU := Lib.hid hu; clear hm1 hm2 hu; clear hb b0 b1 b2 b3 b4 b5 b6 b7 b8 b9 b10 b11 b12 fb; obtain ⟨b0, b1, b2, b3, b4, b5, b6, b7, b8, b9, b10, b11, b12, fb⟩ := (show Bl 61 b #[_, _, _, _, _, _, _, _, _, _, _, _, _] _ from HL.out.b).c13) | (go_at_call 21; (refine (net_New_ok { u with ctl := L1, dat := L2 } A1 A2 C' D' S' k1 k2 q3 q4 q5 HU.out HL.out.r.st (own_les HF.out HM1.out HM2.out).1 (own_les HF.out HM1.out HM2.out).2.1 (own_les HF.out HM1.out HM2.out).2.2.1 (own_les HF.out HM1.out HM2.out).2.2.2.1 (own_les HF.out HM1.out HM2.out).2.2.2.2 ((suOk_same HM1.out HM2.out).trans HOK.out.symm)).mono ?_); rintro e w5 ⟨⟨nb, rfl, hn⟩, hb⟩; replace HL := Lib.hid (HL.out.up hb); have HN := Lib.hid hn; clear hn HU HM1 HM2; clear hb b0 b1 b2 b3 b4 b5 b6 b7 b8 b9 b10 b11 b12 fb; obtain ⟨b0, b1, b2, b3, b4, b5, b6, b7, b8, b9, b10, b11, b12, fb⟩ := (show Bl 61 b #[_, _, _, _, _, _, _, _, _, _, _, _, _] _ from HL.out.b).c13))
   clear b0 b1 b2 b3 b4 b5 b6 b7 b8 b9 b10 b11 b12 fb
   replace HL := Lib.hid (HL.out.up (Bdrw (Below.refl _ _)))
   replace HN := Lib.hid (HN.out.up (Bdrw (Below.refl _ _)))
   go_region_held3 (fun w9 => w9.cell? ⟨b, 0, none⟩ = some (.int .i64 u.t.n) ∧ w9.cell? ⟨b, 1, none⟩ = some (.slice A1 u.t.ov.length k1) ∧ w9.cell? ⟨b, 2, none⟩ = some (.slice A2 u.t.ls.length k2) ∧ w9.cell? ⟨b, 3, none⟩ = some (.int .i64 u.h1) ∧ w9.cell? ⟨b, 4, none⟩ = some (.int .i64 u.h2) ∧ w9.cell? ⟨b, 5, none⟩ = some (.int .i64 u.h3) ∧ w9.cell? ⟨b, 6, none⟩ = some (.int .i64 u.g) ∧ w9.cell? ⟨b, 7, none⟩ = some (.int .i64 u.s) ∧ w9.cell? ⟨b, 8, none⟩ = some (.int .i64 u.det) ∧ w9.cell? ⟨b, 9, none⟩ = some (.int .i64 u.room) ∧ w9.cell? ⟨b, 10, none⟩ = some (.slice C u.ctl.length k3) ∧ w9.cell? ⟨b, 11, none⟩ = some (.slice D u.dat.length k4) ∧ w9.cell? ⟨b, 12, none⟩ = some (.slice S u.acs.length k5))
    (exact HL.out.cells)
    (first | (go_at_call 22; (refine (law_own u A1 A2 C D S k1 k2 k3 k4 k5 (HL.out.r.su HFW.out.symm) HF.out.2.2.2.2.1 HF.out.2.2.2.2.2.1 HF.out.2.2.2.2.2.2.1 HF.out.2.2.2.2.2.2.2.1 HF.out.2.2.2.1).mono ?_); rintro e wo ⟨C7, D7, S7, r3, r4, r5, M1, M2, rfl, hm1, hm2, hu, hb⟩; replace HL := Lib.hid (HL.out.up hb); have HM1 := Lib.hid hm1; have HM2 := Lib.hid hm2; have HU := Lib.hid hu; replace HN := Lib.hid (HN.out.up hb); clear hb hm1 hm2 hu) | (go_at_call 18; (refine (net_Valid { u with ctl := M1, dat := M2 } A1 A2 C7 D7 S7 k1 k2 r3 r4 r5 HU.out (own_les HF.out HM1.out HM2.out).1 (own_les HF.out HM1.out HM2.out).2.1 (own_les HF.out HM1.out HM2.out).2.2.1 (own_les HF.out HM1.out HM2.out).2.2.2.1 (own_les HF.out HM1.out HM2.out).2.2.2.2).mono ?_); rintro e wv ⟨rfl, hb⟩; rw [(suOk_same HM1.out HM2.out).trans HOK.out.symm]; replace HL := Lib.hid (HL.out.up hb); replace HN := Lib.hid (HN.out.up hb); clear hb HM1 HM2 HU) | (go_at_call 23; (refine (ref54_Valid u A1 A2 C D S k1 k2 k3 k4 k5 (HL.out.r.su HFW.out.symm) (own_les HF.out rfl rfl).1 (own_les HF.out rfl rfl).2.1 (own_les HF.out rfl rfl).2.2.1 (own_les HF.out rfl rfl).2.2.2.1 (own_les HF.out rfl rfl).2.2.2.2).mono ?_); rintro e wr ⟨rfl, hb⟩; rw [← HOK.out]; replace HL := Lib.hid (HL.out.up hb); replace HN := Lib.hid (HN.out.up hb); clear hb) | (go_at_call 24; (refine nilN_Run.mono ?_); rintro e wn ⟨rfl, hb⟩; replace HL := Lib.hid (HL.out.up hb); replace HN := Lib.hid (HN.out.up hb); clear hb) | (go_at_call 25; (refine nilN_Time.mono ?_); rintro e wn ⟨rfl, hb⟩; replace HL := Lib.hid (HL.out.up hb); replace HN := Lib.hid (HN.out.up hb); clear hb) | (go_at_call 26; (refine nilN_Trace.mono ?_); rintro e wn ⟨rfl, hb⟩; replace HL := Lib.hid (HL.out.up hb); replace HN := Lib.hid (HN.out.up hb); clear hb) | (go_at_call 27; (refine nilN_Tables.mono ?_); rintro e wn ⟨rfl, hb⟩; replace HL := Lib.hid (HL.out.up hb); replace HN := Lib.hid (HN.out.up hb); clear hb) | (go_at_call 28; (refine nilN_States.mono ?_); rintro e wn ⟨rfl, hb⟩; replace HL := Lib.hid (HL.out.up hb); replace HN := Lib.hid (HN.out.up hb); clear hb) | (go_at_call 29; (refine nilN_Alive.mono ?_); rintro e wn ⟨rfl, hb⟩; replace HL := Lib.hid (HL.out.up hb); replace HN := Lib.hid (HN.out.up hb); clear hb) | (go_at_call 30; (refine nilN_Facts.mono ?_); rintro e wn ⟨rfl, hb⟩; replace HL := Lib.hid (HL.out.up hb); replace HN := Lib.hid (HN.out.up hb); clear hb))
   obtain ⟨b0, b1, b2, b3, b4, b5, b6, b7, b8, b9, b10, b11, b12⟩ := HL.out.cells
   go_upto_region 11 with (go_at_call 23; (refine (ref54_Valid u A1 A2 C D S k1 k2 k3 k4 k5 (HL.out.r.su HFW.out.symm) (own_les HF.out rfl rfl).1 (own_les HF.out rfl rfl).2.1 (own_les HF.out rfl rfl).2.2.1 (own_les HF.out rfl rfl).2.2.2.1 (own_les HF.out rfl rfl).2.2.2.2).mono ?_); rintro e wr ⟨rfl, hb⟩; rw [← HOK.out]; replace HL := Lib.hid (HL.out.up hb); replace HN := Lib.hid (HN.out.up hb); clear hb b0 b1 b2 b3 b4 b5 b6 b7 b8 b9 b10 b11 b12; obtain ⟨b0, b1, b2, b3, b4, b5, b6, b7, b8, b9, b10, b11, b12⟩ := HL.out.cells)
   have hvt : valid u.t = true := by
    have h := HOK.out.symm
    simp only [suOk, Bool.and_eq_true] at h
    exact h.1.1.1.1.1.1.1
   have hN := valid_n hvt
   have a1 : isN u.t.n (-1) = false := isN_false.2 (by omega)
   have a2 : isN u.t.n u.t.n = false := isN_false.2 (by omega)
   have a3 : isN u.t.n 0 = true := isN_true.2 (by omega)
   clear hvt hN
   by_cases hm1 : 0 < m
   ·by_cases hm2 : m ≤ 1073741824
    ·go_wp2_with (first | (go_at_call 24; (refine (net_Run0 HN.out).mono ?_); rintro e wt ⟨rfl, rfl⟩) | (go_at_call 25; (refine (net_Time0 HN.out).mono ?_); rintro e wt ⟨rfl, rfl⟩) | (go_at_call 26; (refine (net_Trace0 HN.out).mono ?_); rintro e wt ⟨rfl, rfl⟩) | (go_at_call 29; (refine (net_Alive0 _ HN.out).mono ?_); rintro e wa ⟨rfl, hb⟩; (first | rw [a1] | rw [a2] | rw [a3]); replace HL := Lib.hid (HL.out.up hb); replace HN := Lib.hid (HN.out.up hb); clear hb b0 b1 b2 b3 b4 b5 b6 b7 b8 b9 b10 b11 b12; obtain ⟨b0, b1, b2, b3, b4, b5, b6, b7, b8, b9, b10, b11, b12⟩ := HL.out.cells))
     go_ret
     exact ⟨rfl, HL.out.hb⟩
    ·have hbad : m < 0 ∨ 1073741824 < m := by omega
     have hm3 : ¬ m < 0 := by omega
     have hm4 : 1073741824 < m := by omega
     go_wp2_with (first | (go_at_call 24; (refine (net_RunBad hbad HN.out).mono ?_); rintro e wt ⟨rfl, rfl⟩) | (go_at_call 25; (refine (net_Time0 HN.out).mono ?_); rintro e wt ⟨rfl, rfl⟩) | (go_at_call 26; (refine (net_Trace0 HN.out).mono ?_); rintro e wt ⟨rfl, rfl⟩) | (go_at_call 29; (refine (net_Alive0 _ HN.out).mono ?_); rintro e wa ⟨rfl, hb⟩; (first | rw [a1] | rw [a2] | rw [a3]); replace HL := Lib.hid (HL.out.up hb); replace HN := Lib.hid (HN.out.up hb); clear hb b0 b1 b2 b3 b4 b5 b6 b7 b8 b9 b10 b11 b12; obtain ⟨b0, b1, b2, b3, b4, b5, b6, b7, b8, b9, b10, b11, b12⟩ := HL.out.cells))
     go_ret
     exact ⟨rfl, HL.out.hb⟩
   ·by_cases hm2 : m < 0
    ·have hbad : m < 0 ∨ 1073741824 < m := by omega
     go_wp2_with (first | (go_at_call 24; (refine (net_RunBad hbad HN.out).mono ?_); rintro e wt ⟨rfl, rfl⟩) | (go_at_call 25; (refine (net_Time0 HN.out).mono ?_); rintro e wt ⟨rfl, rfl⟩) | (go_at_call 26; (refine (net_Trace0 HN.out).mono ?_); rintro e wt ⟨rfl, rfl⟩) | (go_at_call 29; (refine (net_Alive0 _ HN.out).mono ?_); rintro e wa ⟨rfl, hb⟩; (first | rw [a1] | rw [a2] | rw [a3]); replace HL := Lib.hid (HL.out.up hb); replace HN := Lib.hid (HN.out.up hb); clear hb b0 b1 b2 b3 b4 b5 b6 b7 b8 b9 b10 b11 b12; obtain ⟨b0, b1, b2, b3, b4, b5, b6, b7, b8, b9, b10, b11, b12⟩ := HL.out.cells))
     go_ret
     exact ⟨rfl, HL.out.hb⟩
    ·have hm3 : m = 0 := by omega
     subst hm3
     go_wp2_with (first | (go_at_call 24; (refine (net_Run0 HN.out).mono ?_); rintro e wt ⟨rfl, rfl⟩) | (go_at_call 25; (refine (net_Time0 HN.out).mono ?_); rintro e wt ⟨rfl, rfl⟩) | (go_at_call 26; (refine (net_Trace0 HN.out).mono ?_); rintro e wt ⟨rfl, rfl⟩) | (go_at_call 29; (refine (net_Alive0 _ HN.out).mono ?_); rintro e wa ⟨rfl, hb⟩; (first | rw [a1] | rw [a2] | rw [a3]); replace HL := Lib.hid (HL.out.up hb); replace HN := Lib.hid (HN.out.up hb); clear hb b0 b1 b2 b3 b4 b5 b6 b7 b8 b9 b10 b11 b12; obtain ⟨b0, b1, b2, b3, b4, b5, b6, b7, b8, b9, b10, b11, b12⟩ := HL.out.cells))
     go_ret
     exact ⟨rfl, HL.out.hb⟩
end
end Go.Proofs.YtenhliibmcmnbaaGreat
namespace Go.Proofs.YtenhliibmcmnbaaGreat
open Go.ChangeShapes Go.WideShapes Go.ChangeAt Go.RowKit Go.Deep Go.Joins Go.OpenShut
section
variable {H : Type} {enc : TypeId × Value → H} {P : Program} {w : World} {base : Nat} {spare : Nat → Bool} {held : Bool}
/-- A slice opened to a list: 'dec x' are the cells of an element x. -/
theorem open_list {α : Type} {t e : TypeId} {size fuel : Nat} {cs : List Value} {x : DataW H × List MemPlace} (dec : α → List Value) (Good : α → Prop) (ht : P.underlying t = some (.slice e)) (hC : P.cellsOf e = size) (hpos : 0 < size)
  (hdec : ∀ n cs y, DataW.trod enc P w base spare held n e cs = some y → ∃ z : α, cs = dec z ∧ Good z)
  (h : DataW.trod enc P w base spare held fuel t cs = some x) :
  ∃ (A : Option Addr) (cap : Nat) (zs : List α), cs = [.slice A zs.length cap] ∧ zs.length ≤ maxLen ∧ (∀ z ∈ zs, Good z) ∧ zs.length ≤ cap ∧ cap ≤ maxLen ∧
   (zs = [] ∨ ∃ b o, A = some ⟨b, o, none⟩ ∧ ∀ k z, zs[k]? = some z → ∀ j v, (dec z)[j]? = some v → w.cell? ⟨b, o + k * size + j, none⟩ = some v) := by
 rcases open_slice ht h with ⟨rfl, _⟩ | ⟨a, len, cap, m, n, D, Pl, rfl, hb, hl, hm, hmm, hx, hi⟩
 ·exact ⟨none, 0, [], rfl, Nat.zero_le _, by simp, Nat.le_refl _, Nat.zero_le _, .inl rfl⟩
 ·have hle : len ≤ m := by rw [hmm]; split <;> omega
  have hz : ∀ i, i < len → ∃ z : α, w.cells? base (a.add (i * size)) size = some (dec z) ∧ Good z := by
   intro i hlt
   obtain ⟨cs', hc, htr⟩ := hi i (by omega)
   obtain ⟨z, rfl, hg⟩ := hdec _ _ _ htr
   rw [hC] at hc
   exact ⟨z, hc, hg⟩
  obtain ⟨zs, hzl, hzs⟩ : ∃ zs : List α, zs.length = len ∧ ∀ i z, zs[i]? = some z → w.cells? base (a.add (i * size)) size = some (dec z) ∧ Good z := by
   clear hi hx hle hmm hl h
   induction len with
   | zero => exact ⟨[], rfl, by simp⟩
   | succ l ih =>
    obtain ⟨zs, h1, h2⟩ := ih (fun i hi => hz i (by omega))
    obtain ⟨z, h3⟩ := hz l (by omega)
    refine ⟨zs ++ [z], by simp [h1], fun i y hy => ?_⟩
    by_cases hil : i < zs.length
    ·rw [List.getElem?_append_left hil] at hy
     exact h2 i y hy
    ·rw [List.getElem?_append_right (by omega)] at hy
     have : i - zs.length = 0 := by
      rcases Nat.eq_zero_or_pos (i - zs.length) with h | h
      ·exact h
      ·rw [List.getElem?_eq_none (by simp; omega)] at hy; cases hy
     rw [this] at hy
     simp only [List.getElem?_cons_zero, Option.some.injEq] at hy
     subst hy
     obtain rfl : i = l := by omega
     exact h3
  subst hzl
  refine ⟨some a, cap, zs, rfl, by omega, fun z hz' => ?_, hl, hm, ?_⟩
  ·obtain ⟨i, hlt, rfl⟩ := List.getElem_of_mem hz'
   exact (hzs i _ (List.getElem?_eq_getElem hlt)).2
  ·cases zs with
   | nil => exact .inl rfl
   | cons z0 zs' =>
    right
    have h0 := (hzs 0 z0 rfl).1
    obtain ⟨_, hl0, hc0⟩ := World.cells?_some h0
    have hc00 := hc0 0 hpos
    rw [List.getElem?_eq_getElem (by omega)] at hc00
    obtain ⟨b, o, sp⟩ := a
    have hsp : sp = none := by simpa [Addr.add] using World.cell?_spot hc00
    subst hsp
    refine ⟨b, o, rfl, fun k z hk j v hj => ?_⟩
    obtain ⟨_, hl1, hc1⟩ := World.cells?_some (hzs k z hk).1
    have hjl : j < size := by
     have := (List.getElem?_eq_some_iff.1 hj).1
     omega
    have := hc1 j hjl
    rw [hj] at this
    rw [← this]
    congr 1
    unfold Addr.add
    by_cases e1 : k * size = 0 <;> by_cases e2 : j = 0 <;> simp [e1, e2, Nat.add_assoc]
theorem wf64 {n : Int} (h : (Lit.int .i64 n).wf = true) : -9223372036854775808 ≤ n ∧ n ≤ 9223372036854775807 := by
 exact bounds_i64 h
theorem open_i64 {r : Reach} {b0 : Nat} {t : TypeId} {v : Value} {d : DataW H} {p : List MemPlace} (ht : P.underlying t = some (.int .i64)) (hv : Value.okWide P w r b0 t v) (h : DataW.Trod enc P w base spare held t v d p) :
  ∃ n, v = .int .i64 n ∧ -9223372036854775808 ≤ n ∧ n ≤ 9223372036854775807 := by
 obtain ⟨n, rfl, _, _, wn⟩ := open_int ht hv h
 exact ⟨n, rfl, wf64 wn⟩
theorem open_boolsF {t e : TypeId} {fuel : Nat} {v : Value} {x : DataW H × List MemPlace} (ht : P.underlying t = some (.slice e)) (he : P.underlying e = some .bool) (hC : P.cellsOf e = 1) (hf : DataW.trod enc P w base spare held fuel t [v] = some x) :
  ∃ (A : Option Addr) (cap : Nat) (xs : List Bool), v = .slice A xs.length cap ∧ xs.length ≤ cap ∧ cap ≤ maxLen ∧ Rd w A (xs.map Value.bool) := by
 obtain ⟨A', cap, zs, hcs, _, _, hlc, hcm, hc⟩ := open_list (α := Bool) (fun z => [.bool z]) (fun _ => True) ht hC (by omega)
  (fun n cs y hy => by obtain ⟨z, rfl, _⟩ := DataW.trod_bool he hy; exact ⟨z, rfl, trivial⟩) hf
 simp only [List.cons.injEq, and_true] at hcs
 refine ⟨A', cap, zs, hcs, hlc, hcm, ?_⟩
 rcases hc with rfl | ⟨b, o, rfl, hc⟩
 ·exact .inl rfl
 ·refine .inr ⟨b, o, rfl, fun j u hu => ?_⟩
  rw [List.getElem?_map] at hu
  obtain ⟨z, hz, rfl⟩ := Option.map_eq_some_iff.1 hu
  simpa using hc j z hz 0 _ rfl
end
def lnkCells (l : Lnk) : List Value := [.int .i64 l.a, .int .i64 l.b, .int .i64 l.c0, .int .i64 l.c1, .int .i64 l.cap, .int .i64 l.dl, .int .i64 l.g]
def I64 (n : Int) : Prop := -9223372036854775808 ≤ n ∧ n ≤ 9223372036854775807
structure LnkIn (l : Lnk) : Prop where
 a : I64 l.a
 b : I64 l.b
 c0 : I64 l.c0
 c1 : I64 l.c1
 cap : I64 l.cap
 dl : I64 l.dl
 g : I64 l.g
section
variable {H : Type} {enc : TypeId × Value → H} {w : World} {base : Nat} {spare : Nat → Bool} {held : Bool}
theorem cells1 : Tryz.prog.cellsOf 3 = 1 := by kernel_rfl
theorem cells2 : Tryz.prog.cellsOf 26 = 2 := by kernel_rfl
theorem cells7 : Tryz.prog.cellsOf 118 = 7 := by kernel_rfl
set_option maxRecDepth 100000 in
theorem trod_link {n : Nat} {cs : List Value} {y : DataW H × List MemPlace} (h : DataW.trod enc Tryz.prog w base spare held n 118 cs = some y) : ∃ l : Lnk, cs = lnkCells l ∧ LnkIn l := by
 obtain ⟨ys, m, _, _, hl, hyl, hf⟩ := DataW.trod_struct Tryz.underlying118 h
 rw [cells7] at hl
 match cs, hl with
 | [v0, v1, v2, v3, v4, v5, v6], _ =>
  have f0 := hf 0 _ rfl
  simp [cells1] at f0
  have f1 := hf 1 _ rfl
  simp [cells1] at f1
  have f2 := hf 2 _ rfl
  simp [cells2] at f2
  have f3 := hf 3 _ rfl
  simp [cells1] at f3
  have f4 := hf 4 _ rfl
  simp [cells1] at f4
  have f5 := hf 5 _ rfl
  simp [cells1] at f5
  match ys, hyl with
  | [y0, y1, y2, y3, y4, y5], _ =>
   obtain ⟨a, e0, _, wa⟩ := DataW.trod_int Tryz.underlying3 f0
   obtain ⟨b, e1, _, wb⟩ := DataW.trod_int Tryz.underlying3 f1
   obtain ⟨zs, m2, _, _, _, hzl, hg⟩ := DataW.trod_array Tryz.underlying26 f2
   have g0 := hg 0 (by omega)
   have g1 := hg 1 (by omega)
   simp [cells1] at g0 g1
   match zs, hzl with
   | [z0, z1], _ =>
    obtain ⟨c0, e2, _, wc0⟩ := DataW.trod_int Tryz.underlying3 g0
    obtain ⟨c1, e3, _, wc1⟩ := DataW.trod_int Tryz.underlying3 g1
    obtain ⟨c, e4, _, wc⟩ := DataW.trod_int Tryz.underlying3 f3
    obtain ⟨d, e5, _, wd⟩ := DataW.trod_int Tryz.underlying3 f4
    obtain ⟨g, e6, _, wg⟩ := DataW.trod_int Tryz.underlying3 f5
    simp only [List.cons.injEq, and_true] at e0 e1 e2 e3 e4 e5 e6
    subst e0 e1 e2 e3 e4 e5 e6
    exact ⟨⟨a, b, c0, c1, c, d, g⟩, rfl, ⟨wf64 wa, wf64 wb, wf64 wc0, wf64 wc1, wf64 wc, wf64 wd, wf64 wg⟩⟩
set_option maxRecDepth 100000 in
theorem open_linksF {fuel : Nat} {v : Value} {x : DataW H × List MemPlace} (hf : DataW.trod enc Tryz.prog w base spare held fuel 23 [v] = some x) :
  ∃ (A : Option Addr) (cap : Nat) (ls : List Lnk), v = .slice A ls.length cap ∧ ls.length ≤ cap ∧ cap ≤ maxLen ∧ (∀ l ∈ ls, LnkIn l) ∧ RdL w A ls := by
 obtain ⟨A', cap, zs, hcs, _, hg, hlc, hcm, hc⟩ := open_list (α := Lnk) lnkCells LnkIn Tryz.underlying23 cells7 (by omega) (fun n cs y hy => trod_link hy) hf
 simp only [List.cons.injEq, and_true] at hcs
 refine ⟨A', cap, zs, hcs, hlc, hcm, hg, ?_⟩
 rcases hc with rfl | ⟨b, o, rfl, hc⟩
 ·exact .inl rfl
 ·exact .inr ⟨b, o, rfl, fun k l hl => ⟨hc k l hl 0 _ rfl, hc k l hl 1 _ rfl, hc k l hl 2 _ rfl, hc k l hl 3 _ rfl, hc k l hl 4 _ rfl, hc k l hl 5 _ rfl, hc k l hl 6 _ rfl⟩⟩
theorem cells3 : Tryz.prog.cellsOf 25 = 3 := by kernel_rfl
theorem cellsB : Tryz.prog.cellsOf 4 = 1 := by kernel_rfl
end
end Go.Proofs.YtenhliibmcmnbaaGreat
namespace Go.Proofs.YtenhliibmcmnbaaGreat
open Go.ChangeShapes Go.WideShapes Go.ChangeAt Go.RowKit Go.Deep Go.Joins Go.OpenShut
set_option linter.unusedSimpArgs false
set_option linter.unusedVariables false
theorem nflat_get {α : Type} {f : α → List Value} {n : Nat} (hpos : 0 < n) (hn : ∀ x, (f x).length = n) : ∀ (l : List α) (i : Nat) (u : Value), (l.flatMap f)[i]? = some u → ∃ z, l[i / n]? = some z ∧ (f z)[i % n]? = some u
 | [], i, u, h => by simp at h
 | x :: r, i, u, h => by
  rw [List.flatMap_cons] at h
  by_cases hi : i < n
  ·rw [List.getElem?_append_left (by rw [hn]; exact hi)] at h
   exact ⟨x, by rw [Nat.div_eq_of_lt hi]; rfl, by rw [Nat.mod_eq_of_lt hi]; exact h⟩
  ·rw [List.getElem?_append_right (by rw [hn]; omega), hn] at h
   obtain ⟨z, h1, h2⟩ := nflat_get hpos hn r (i - n) u h
   have e1 : i / n = (i - n) / n + 1 := by
    have := Nat.add_div_right (i - n) hpos
    rw [show i - n + n = i by omega] at this
    exact this
   have e2 : i % n = (i - n) % n := by
    have := Nat.add_mod_right (i - n) n
    rw [show i - n + n = i by omega] at this
    exact this
   exact ⟨z, by rw [e1]; simpa using h1, by rw [e2]; exact h2⟩
section
variable {H : Type} {enc : TypeId × Value → H} {P : Program} {w : World} {base : Nat} {spare : Nat → Bool} {held : Bool}
theorem nopen_flat {α : Type} {t e : TypeId} {size fuel : Nat} {v : Value} {x : DataW H × List MemPlace} (dec : α → List Value) (Good : α → Prop) (ht : P.underlying t = some (.slice e)) (hC : P.cellsOf e = size) (hpos : 0 < size) (hlen : ∀ z, (dec z).length = size)
  (hdec : ∀ n cs y, DataW.trod enc P w base spare held n e cs = some y → ∃ z : α, cs = dec z ∧ Good z)
  (h : DataW.trod enc P w base spare held fuel t [v] = some x) :
  ∃ (A : Option Addr) (cap : Nat) (zs : List α), v = .slice A zs.length cap ∧ zs.length ≤ maxLen ∧ (∀ z ∈ zs, Good z) ∧ zs.length ≤ cap ∧ cap ≤ maxLen ∧ Rd w A (zs.flatMap dec) := by
 obtain ⟨A, cap, zs, hcs, hm, hg, hlc, hcm, hc⟩ := open_list dec Good ht hC hpos hdec h
 simp only [List.cons.injEq, and_true] at hcs
 refine ⟨A, cap, zs, hcs, hm, hg, hlc, hcm, ?_⟩
 rcases hc with rfl | ⟨b, o, rfl, hc⟩
 ·exact .inl rfl
 ·refine .inr ⟨b, o, rfl, fun j u hu => ?_⟩
  obtain ⟨z, h1, h2⟩ := nflat_get hpos hlen zs j u hu
  have := hc (j / size) z h1 (j % size) u h2
  rw [← this]
  congr 2
  have := Nat.div_add_mod j size
  rw [Nat.mul_comm] at this
  omega
end
theorem narray13 {cs : Array Value} (h : cs.size = 13) : ∃ c0 c1 c2 c3 c4 c5 c6 c7 c8 c9 c10 c11 c12, cs = #[c0, c1, c2, c3, c4, c5, c6, c7, c8, c9, c10, c11, c12] := by
 obtain ⟨l⟩ := cs
 match l, h with
 | [a, b, c, d, e, f, g, i, j, k, m, n, o], _ => exact ⟨a, b, c, d, e, f, g, i, j, k, m, n, o, rfl⟩
section
variable {H : Type} {enc : TypeId × Value → H} {w : World} {base : Nat} {spare : Nat → Bool} {held : Bool}
theorem flat_len2 : ∀ l : List (Int × Int), (l.flatMap fateV).length = l.length * 2
 | [] => rfl
 | x :: r => by
  rw [List.flatMap_cons, List.length_append, flat_len2 r, List.length_cons]
  show 2 + r.length * 2 = _
  omega
theorem ncells2f : Tryz.prog.cellsOf 230 = 2 := by kernel_rfl
theorem ncells2s : Tryz.prog.cellsOf 104 = 2 := by kernel_rfl
theorem ncells1f : Tryz.prog.cellsOf 129 = 1 := by kernel_rfl
theorem ncells1q : Tryz.prog.cellsOf 37 = 1 := by kernel_rfl
theorem ncells6 : Tryz.prog.cellsOf 39 = 6 := by kernel_rfl
theorem ncells14 : Tryz.prog.cellsOf 130 = 14 := by kernel_rfl
theorem ncells13 : Tryz.prog.cellsOf 61 = 13 := by kernel_rfl
set_option maxRecDepth 100000 in
theorem trod_fate {n : Nat} {cs : List Value} {y : DataW H × List MemPlace} (h : DataW.trod enc Tryz.prog w base spare held n 230 cs = some y) : ∃ s : Int × Int, cs = fateV s ∧ True := by
 obtain ⟨ys, m, _, _, hl, hyl, hf⟩ := DataW.trod_struct Tryz.underlying230 h
 rw [ncells2f] at hl
 match cs, hl with
 | [v0, v1], _ =>
  have f0 := hf 0 _ rfl
  simp [cells1] at f0
  have f1 := hf 1 _ rfl
  simp [cells1] at f1
  match ys, hyl with
  | [y0, y1], _ =>
   obtain ⟨a0, e0, _, w0⟩ := DataW.trod_int Tryz.underlying3 f0
   obtain ⟨a1, e1, _, w1⟩ := DataW.trod_int Tryz.underlying3 f1
   simp only [List.cons.injEq, and_true] at e0 e1
   subst e0 e1
   exact ⟨⟨a0, a1⟩, rfl, trivial⟩
set_option maxRecDepth 100000 in
theorem trod_sg {n : Nat} {cs : List Value} {y : DataW H × List MemPlace} (h : DataW.trod enc Tryz.prog w base spare held n 104 cs = some y) : ∃ s : Int × Int, cs = fateV s ∧ True := by
 obtain ⟨ys, m, _, _, hl, hyl, hf⟩ := DataW.trod_struct Tryz.underlying104 h
 rw [ncells2s] at hl
 match cs, hl with
 | [v0, v1], _ =>
  have f0 := hf 0 _ rfl
  simp [cells1] at f0
  have f1 := hf 1 _ rfl
  simp [cells1] at f1
  match ys, hyl with
  | [y0, y1], _ =>
   obtain ⟨a0, e0, _, w0⟩ := DataW.trod_int Tryz.underlying3 f0
   obtain ⟨a1, e1, _, w1⟩ := DataW.trod_int Tryz.underlying3 f1
   simp only [List.cons.injEq, and_true] at e0 e1
   subst e0 e1
   exact ⟨⟨a0, a1⟩, rfl, trivial⟩
theorem trod_fates {n : Nat} {cs : List Value} {y : DataW H × List MemPlace} (h : DataW.trod enc Tryz.prog w base spare held n 129 cs = some y) : ∃ x : FtL, cs = [ftV x] ∧ Rd w x.1 (x.2.2.flatMap fateV) := by
 obtain ⟨A, cap, zs, hcs, -⟩ := open_list fateV (fun _ => True) Tryz.underlying129 ncells2f (by omega) (fun n cs y hy => trod_fate hy) h
 subst hcs
 obtain ⟨A', cap', zs', hv, -, -, -, -, hr⟩ := nopen_flat fateV (fun _ => True) Tryz.underlying129 ncells2f (by omega) (fun _ => rfl) (fun n cs y hy => trod_fate hy) h
 exact ⟨(A', cap', zs'), by rw [hv]; rfl, hr⟩
theorem cells2c : Tryz.prog.cellsOf 125 = 2 := by kernel_rfl
set_option maxRecDepth 100000 in
theorem trod_act {n : Nat} {cs : List Value} {y : DataW H × List MemPlace} (h : DataW.trod enc Tryz.prog w base spare held n 130 cs = some y) : ∃ a : AcN, cs = acV a ∧ ∃ ys, Rd w a.st ys ∧ ys.length = a.sn * 2 ∧ ∀ y ∈ ys, y.oneCell' = true := by
 obtain ⟨ys, m, _, _, hl, hyl, hf⟩ := DataW.trod_struct Tryz.underlying130 h
 rw [ncells14] at hl
 match cs, hl with
 | [v0, v1, v2, v3, v4, v5, v6, v7, v8, v9, v10, v11, v12, v13], _ =>
  have f0 := hf 0 _ rfl
  simp [cells1] at f0
  have f1 := hf 1 _ rfl
  simp [cells1] at f1
  have f2 := hf 2 _ rfl
  simp [ncells6] at f2
  have f3 := hf 3 _ rfl
  simp [cells2c] at f3
  have f4 := hf 4 _ rfl
  simp [cells1] at f4
  have f5 := hf 5 _ rfl
  simp [cellsB] at f5
  have f6 := hf 6 _ rfl
  simp [cells1] at f6
  have f7 := hf 7 _ rfl
  simp [cells1] at f7
  match ys, hyl with
  | [y0, y1, y2, y3, y4, y5, y6, y7], _ =>
   obtain ⟨a0, e0, _, _⟩ := DataW.trod_int Tryz.underlying3 f0
   obtain ⟨a1, e1, _, _⟩ := DataW.trod_int Tryz.underlying3 f1
   obtain ⟨zs, m2, _, _, _, hzl, hg⟩ := DataW.trod_struct Tryz.underlying39 f2
   have g0 := hg 0 _ rfl
   simp [cells1] at g0
   have g1 := hg 1 _ rfl
   simp [cells1] at g1
   have g2 := hg 2 _ rfl
   simp [cells1] at g2
   have g3 := hg 3 _ rfl
   simp [cells1] at g3
   have g4 := hg 4 _ rfl
   simp [ncells1q] at g4
   have g5 := hg 5 _ rfl
   simp [cells1] at g5
   obtain ⟨zc, m3, _, _, _, hzc, hk⟩ := DataW.trod_struct Tryz.underlying125 f3
   have k0 := hk 0 _ rfl
   simp [cells1] at k0
   have k1 := hk 1 _ rfl
   simp [cells1] at k1
   match zs, hzl, zc, hzc with
   | [z0, z1, z2, z3, z4, z5], _, [q0, q1], _ =>
    obtain ⟨b0, p0, _, _⟩ := DataW.trod_int Tryz.underlying3 g0
    obtain ⟨b1, p1, _, _⟩ := DataW.trod_int Tryz.underlying3 g1
    obtain ⟨b2, p2, _, _⟩ := DataW.trod_int Tryz.underlying3 g2
    obtain ⟨b3, p3, _, _⟩ := DataW.trod_int Tryz.underlying3 g3
    obtain ⟨A, cap, ss, rfl, _, _, _, _, hr⟩ := nopen_flat fateV (fun _ => True) Tryz.underlying37 ncells2s (by omega) (fun _ => rfl) (fun n cs y hy => trod_sg hy) g4
    obtain ⟨b5, p5, _, _⟩ := DataW.trod_int Tryz.underlying3 g5
    obtain ⟨c0, r0, _, _⟩ := DataW.trod_int Tryz.underlying3 k0
    obtain ⟨c1, r1, _, _⟩ := DataW.trod_int Tryz.underlying3 k1
    obtain ⟨a4, e4, _, _⟩ := DataW.trod_int Tryz.underlying3 f4
    obtain ⟨a5, e5, _⟩ := DataW.trod_bool Tryz.underlying4 f5
    obtain ⟨a6, e6, _, _⟩ := DataW.trod_int Tryz.underlying3 f6
    obtain ⟨a7, e7, _, _⟩ := DataW.trod_int Tryz.underlying3 f7
    simp only [List.cons.injEq, and_true] at e0 e1 e4 e5 e6 e7 p0 p1 p2 p3 p5 r0 r1
    subst e0 e1 e4 e5 e6 e7 p0 p1 p2 p3 p5 r0 r1
    refine ⟨⟨a0, a1, b0, b1, b2, b3, A, ss.length, cap, b5, c0, c1, a4, a5, a6, a7⟩, rfl, _, hr, ?_, ?_⟩
    ·exact flat_len2 ss
    ·intro y hy
     obtain ⟨z, _, hz⟩ := List.mem_flatMap.1 hy
     simp only [fateV, List.mem_cons, List.not_mem_nil, or_false] at hz
     rcases hz with rfl | rfl <;> rfl
theorem ncells5 : Tryz.prog.cellsOf 57 = 5 := by kernel_rfl
theorem ncells1c : Tryz.prog.cellsOf 58 = 1 := by kernel_rfl
theorem ncells1a : Tryz.prog.cellsOf 59 = 1 := by kernel_rfl
theorem ncells1l : Tryz.prog.cellsOf 23 = 1 := by kernel_rfl
theorem ncells1b : Tryz.prog.cellsOf 22 = 1 := by kernel_rfl
theorem flat_one : ∀ L : List FtL, L.flatMap (fun x => [ftV x]) = L.map ftV
 | [] => rfl
 | x :: r => by rw [List.flatMap_cons, flat_one r]; rfl
set_option maxHeartbeats 4000000 in
set_option maxRecDepth 100000 in
/-- A setup that came in. -/
theorem open_setup {r : Reach} {b0 : Nat} {v : Value} {d : DataW H} {p : List MemPlace} (hv : Value.okWide Tryz.prog w r b0 61 v) (h : DataW.Trod enc Tryz.prog w base spare held 61 v d p) :
  ∃ (u : SuN) (A1 A2 C D S : Option Addr) (k1 k2 k3 k4 k5 : Nat), v = .agg (suC u A1 A2 C D S k1 k2 k3 k4 k5) ∧ RawAt w A1 A2 C D S u := by
 obtain ⟨cs, rfl, hsz⟩ := okWide_struct Tryz.underlying61 hv
 obtain ⟨c0, c1, c2, c3, c4, c5, c6, c7, c8, c9, c10, c11, c12, rfl⟩ := narray13 (hsz.trans ncells13)
 obtain ⟨fuel, hf0⟩ := h
 obtain ⟨ys, m, _, _, _, hyl, hf⟩ := DataW.trod_struct Tryz.underlying61 hf0
 have f0 := hf 0 _ rfl
 simp [cells3, Value.cells] at f0
 have f1 := hf 1 _ rfl
 simp [ncells5, Value.cells] at f1
 have f2 := hf 2 _ rfl
 simp [cells1, Value.cells] at f2
 have f3 := hf 3 _ rfl
 simp [cells1, Value.cells] at f3
 have f4 := hf 4 _ rfl
 simp [ncells1c, Value.cells] at f4
 have f5 := hf 5 _ rfl
 simp [ncells1c, Value.cells] at f5
 have f6 := hf 6 _ rfl
 simp [ncells1a, Value.cells] at f6
 match ys, hyl with
 | [y0, y1, y2, y3, y4, y5, y6], _ =>
  obtain ⟨zs, m2, _, _, _, hzl, hg⟩ := DataW.trod_struct Tryz.underlying25 f0
  have g0 := hg 0 _ rfl
  simp [cells1] at g0
  have g1 := hg 1 _ rfl
  simp [ncells1b] at g1
  have g2 := hg 2 _ rfl
  simp [ncells1l] at g2
  match zs, hzl with
  | [z0, z1, z2], _ =>
   obtain ⟨n, e0, _, _⟩ := DataW.trod_int Tryz.underlying3 g0
   obtain ⟨A1, k1, ov, rfl, _, _, hov⟩ := open_boolsF Tryz.underlying22 Tryz.underlying4 cellsB g1
   obtain ⟨A2, k2, ls, rfl, _, _, _, hls⟩ := open_linksF g2
   obtain ⟨ts, m7, _, _, _, htl, ht⟩ := DataW.trod_array Tryz.underlying57 f1
   have t0 := ht 0 (by omega)
   have t1 := ht 1 (by omega)
   have t2 := ht 2 (by omega)
   have t3 := ht 3 (by omega)
   have t4 := ht 4 (by omega)
   simp [cells1] at t0 t1 t2 t3 t4
   obtain ⟨det, e2, _, _⟩ := DataW.trod_int Tryz.underlying3 f2
   obtain ⟨room, e3, _, _⟩ := DataW.trod_int Tryz.underlying3 f3
   obtain ⟨C, k3, ctl, rfl, _, gc, _, _, rc⟩ := nopen_flat (fun x : FtL => [ftV x]) (fun x => Rd w x.1 (x.2.2.flatMap fateV)) Tryz.underlying58 ncells1f (by omega) (fun _ => rfl) (fun n cs y hy => trod_fates hy) f4
   obtain ⟨D, k4, dat, rfl, _, gd, _, _, rd⟩ := nopen_flat (fun x : FtL => [ftV x]) (fun x => Rd w x.1 (x.2.2.flatMap fateV)) Tryz.underlying58 ncells1f (by omega) (fun _ => rfl) (fun n cs y hy => trod_fates hy) f5
   obtain ⟨S, k5, acs, rfl, _, ga, _, _, ra⟩ := nopen_flat acV (fun a => ∃ ys, Rd w a.st ys ∧ ys.length = a.sn * 2 ∧ ∀ y ∈ ys, y.oneCell' = true) Tryz.underlying59 ncells14 (by omega) (fun _ => rfl) (fun n cs y hy => trod_act hy) f6
   match ts, htl with
   | [u0, u1, u2, u3, u4], _ =>
    obtain ⟨x0, q0, _, _⟩ := DataW.trod_int Tryz.underlying3 t0
    obtain ⟨x1, q1, _, _⟩ := DataW.trod_int Tryz.underlying3 t1
    obtain ⟨x2, q2, _, _⟩ := DataW.trod_int Tryz.underlying3 t2
    obtain ⟨x3, q3, _, _⟩ := DataW.trod_int Tryz.underlying3 t3
    obtain ⟨x4, q4, _, _⟩ := DataW.trod_int Tryz.underlying3 t4
    simp only [List.cons.injEq, and_true] at e0 e2 e3 q0 q1 q2 q3 q4
    subst e0 e2 e3 q0 q1 q2 q3 q4
    rw [flat_one] at rc rd
    exact ⟨⟨⟨n, ov, ls⟩, x0, x1, x2, x3, x4, det, room, ctl, dat, acs⟩, A1, A2, C, D, S, k1, k2, k3, k4, k5, rfl, ⟨⟨hov, hls⟩, rc, gc, rd, gd, ra, ga⟩⟩
end
end Go.Proofs.YtenhliibmcmnbaaGreat
