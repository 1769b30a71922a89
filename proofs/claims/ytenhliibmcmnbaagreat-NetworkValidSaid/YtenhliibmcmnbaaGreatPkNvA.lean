/-
  The methods of a network that is nil.
  network.Valid (printed by gen_nvi.py).
  What a speaker is that has just been made; small laws on blocks.
  graph.Entering, topology.In and waypointref09.Has: what each returns, for every topology in memory.
  graph.Clone, graph.Over; lists of links, flat.
  graph.Clone once more: the copy lies in memory of its own.
-/
import Derived.Test.YtenhliibmcmnbaaGreatPkKp
import Derived.Test.YtenhliibmcmnbaaGreatPkNvE
import Derived.Laws.MakeOwn
import Derived.Test.YtenhliibmcmnbaaGreatPkBase
import Derived.OwnWalk
namespace Go.Proofs.YtenhliibmcmnbaaGreat
set_option linter.unusedSimpArgs false
set_option linter.unusedVariables false
open Go.RowKit Go.Sort
section
variable {w : World}
set_option maxRecDepth 100000 in
set_option maxHeartbeats 1000000 in
theorem nilN_Run : Calls Tryz.prog 24 #[.pointer none, .int .i64 5] w fun e w' => e = .returned (.int .i64 7) ∧ Below w.heap.size w w' := by
 have HB := Lib.hid (Below.refl w.heap.size w)
 go_enter Tryz.func24, Tryz.ntmps24
 go_wp2_with fail
 go_ret
 exact ⟨rfl, HB.out⟩
set_option maxRecDepth 100000 in
set_option maxHeartbeats 1000000 in
theorem nilN_Time : Calls Tryz.prog 25 #[.pointer none] w fun e w' => e = .returned (.int .i64 0) ∧ Below w.heap.size w w' := by
 have HB := Lib.hid (Below.refl w.heap.size w)
 go_enter Tryz.func25, Tryz.ntmps25
 go_wp2_with fail
 go_ret
 exact ⟨rfl, HB.out⟩
set_option maxRecDepth 100000 in
set_option maxHeartbeats 1000000 in
theorem nilN_Trace : Calls Tryz.prog 26 #[.pointer none] w fun e w' => e = .returned (.slice none 0 0) ∧ Below w.heap.size w w' := by
 have HB := Lib.hid (Below.refl w.heap.size w)
 go_enter Tryz.func26, Tryz.ntmps26
 go_wp2_with fail
 go_ret
 exact ⟨rfl, HB.out⟩
set_option maxRecDepth 100000 in
set_option maxHeartbeats 1000000 in
theorem nilN_Tables : Calls Tryz.prog 27 #[.pointer none] w fun e w' => e = .returned (.slice none 0 0) ∧ Below w.heap.size w w' := by
 have HB := Lib.hid (Below.refl w.heap.size w)
 go_enter Tryz.func27, Tryz.ntmps27
 go_wp2_with fail
 go_ret
 exact ⟨rfl, HB.out⟩
set_option maxRecDepth 100000 in
set_option maxHeartbeats 1000000 in
theorem nilN_States : Calls Tryz.prog 28 #[.pointer none] w fun e w' => e = .returned (.slice none 0 0) ∧ Below w.heap.size w w' := by
 have HB := Lib.hid (Below.refl w.heap.size w)
 go_enter Tryz.func28, Tryz.ntmps28
 go_wp2_with fail
 go_ret
 exact ⟨rfl, HB.out⟩
set_option maxRecDepth 100000 in
set_option maxHeartbeats 1000000 in
theorem nilN_Alive : Calls Tryz.prog 29 #[.pointer none, .int .i64 0] w fun e w' => e = .returned (.bool false) ∧ Below w.heap.size w w' := by
 have HB := Lib.hid (Below.refl w.heap.size w)
 go_enter Tryz.func29, Tryz.ntmps29
 go_wp2_with fail
 go_ret
 exact ⟨rfl, HB.out⟩
set_option maxRecDepth 100000 in
set_option maxHeartbeats 1000000 in
theorem nilN_Facts : Calls Tryz.prog 30 #[.pointer none] w fun e w' => e = .returned (.agg #[.int .i64 0, .slice none 0 0, .slice none 0 0, .int .i64 0, .int .i64 0, .int .i64 0, .slice none 0 0]) ∧ Below w.heap.size w w' := by
 have HB := Lib.hid (Below.refl w.heap.size w)
 go_enter Tryz.func30, Tryz.ntmps30
 go_wp2_with fail
 exact bodyPost_ret (v := .agg #[.int .i64 0, .slice none 0 0, .slice none 0 0, .int .i64 0, .int .i64 0, .int .i64 0, .slice none 0 0]) (by simp [results, Tryz.results30, go_sem]) rfl ⟨rfl, HB.out.alloc (Nat.le_refl _) _⟩
end
end Go.Proofs.YtenhliibmcmnbaaGreat
namespace Go.Proofs.YtenhliibmcmnbaaGreat
set_option linter.unusedSimpArgs false
set_option linter.unusedVariables false
open Go.RowKit Go.Sort
/-- What network.Valid keeps: the box of its setup, the box of the topology, what both point to. -/
structure VB (w : World) (b tb : Nat) (cx ct : Array Value) (A1 A2 C D S : Option Addr) (u : SuN) (W : World) : Prop where
 x : Bl 66 b cx W
 t : Bl 25 tb ct W
 u : SuAt W A1 A2 C D S u
 b : Below w.heap.size w W
theorem VB.up {w W W' : World} {b tb : Nat} {cx ct : Array Value} {A1 A2 C D S : Option Addr} {u : SuN} (h : VB w b tb cx ct A1 A2 C D S u W) (hb : Below W.heap.size W W') : VB w b tb cx ct A1 A2 C D S u W' :=
 ⟨h.x.up hb, h.t.up hb, h.u.below hb, below_next h.b hb⟩
theorem idx5_0 (a b c d e : Value) (w : World) : (Instr.index 57 (.agg #[a, b, c, d, e]) (.int .i64 0)).run Tryz.prog w = .ok a w := by kernel_rfl
theorem idx5_1 (a b c d e : Value) (w : World) : (Instr.index 57 (.agg #[a, b, c, d, e]) (.int .i64 1)).run Tryz.prog w = .ok b w := by kernel_rfl
theorem idx5_2 (a b c d e : Value) (w : World) : (Instr.index 57 (.agg #[a, b, c, d, e]) (.int .i64 2)).run Tryz.prog w = .ok c w := by kernel_rfl
theorem idx5_3 (a b c d e : Value) (w : World) : (Instr.index 57 (.agg #[a, b, c, d, e]) (.int .i64 3)).run Tryz.prog w = .ok d w := by kernel_rfl
theorem idx5_4 (a b c d e : Value) (w : World) : (Instr.index 57 (.agg #[a, b, c, d, e]) (.int .i64 4)).run Tryz.prog w = .ok e w := by kernel_rfl
theorem idx2_0 (a b : Value) (w : World) : (Instr.index 119 (.agg #[a, b]) (.int .i64 0)).run Tryz.prog w = .ok a w := by kernel_rfl
theorem idx2_1 (a b : Value) (w : World) : (Instr.index 119 (.agg #[a, b]) (.int .i64 1)).run Tryz.prog w = .ok b w := by kernel_rfl
theorem nidx5 {h1 h2 h3 g s x : Int} {q : Nat} (hx : [h1, h2, h3, g, s][q]? = some x) (w : World) : (Instr.index 57 (.agg #[.int .i64 h1, .int .i64 h2, .int .i64 h3, .int .i64 g, .int .i64 s]) (.int .i64 q)).run Tryz.prog w = .ok (.int .i64 x) w := by
 match q, hx with
 | 0, hx =>
  obtain rfl := Option.some.inj hx
  exact idx5_0 _ _ _ _ _ w
 | 1, hx =>
  obtain rfl := Option.some.inj hx
  exact idx5_1 _ _ _ _ _ w
 | 2, hx =>
  obtain rfl := Option.some.inj hx
  exact idx5_2 _ _ _ _ _ w
 | 3, hx =>
  obtain rfl := Option.some.inj hx
  exact idx5_3 _ _ _ _ _ w
 | 4, hx =>
  obtain rfl := Option.some.inj hx
  exact idx5_4 _ _ _ _ _ w
 | n + 5, hx => simp at hx
theorem nidx2 {u v x : Value} {q : Nat} (hx : [u, v][q]? = some x) (w : World) : (Instr.index 119 (.agg #[u, v]) (.int .i64 q)).run Tryz.prog w = .ok x w := by
 match q, hx with
 | 0, hx =>
  obtain rfl := Option.some.inj hx
  exact idx2_0 _ _ w
 | 1, hx =>
  obtain rfl := Option.some.inj hx
  exact idx2_1 _ _ w
 | n + 2, hx => simp at hx
theorem chan0 {fs : List (Int × Int)} : chanOk 1 1 0 fs = fs.all fateOk := by simp [chanOk, inR]
/-- The two lists of lists of fates, by number. -/
theorem two_fates {w : World} {C D : Option Addr} {k3 k4 : Nat} {ctl dat : List FtL} (hc : FtAt w C ctl) (hd : FtAt w D dat) (q : Nat) (hq : q < 2) :
  ∃ X k L, [(Value.slice C ctl.length k3), .slice D dat.length k4][q]? = some (.slice X L.length k) ∧ FtAt w X L ∧ ((q = 0 ∧ L = ctl) ∨ (q = 1 ∧ L = dat)) := by
 match q, hq with
 | 0, _ => exact ⟨C, k3, ctl, rfl, hc, .inl ⟨rfl, rfl⟩⟩
 | 1, _ => exact ⟨D, k4, dat, rfl, hd, .inr ⟨rfl, rfl⟩⟩
/-- A list of lists of fates is right, and short enough. -/
def fok (t : Topo) (L : List FtL) : Bool := ftOk L && decide ((L.length : Int) ≤ 2 * (t.ls.length : Int))
theorem suOk_fok {t : Topo} {h1 h2 h3 g s det room : Int} {ctl dat : List FtL} {acs : List AcN} : suOk ⟨t, h1, h2, h3, g, s, det, room, ctl, dat, acs⟩ = (valid t && inR det 0 65536 && inR room 0 65536 && tmsOk [h1, h2, h3, g, s] && fok t ctl && fok t dat && decide (acs.length ≤ 65536) && acsOk t 1 acs) := rfl
section
variable {w : World}
set_option maxRecDepth 100000 in
set_option maxHeartbeats 8000000 in
theorem net_Valid (u : SuN) (A1 A2 C D S : Option Addr) (k1 k2 k3 k4 k5 : Nat) (hU : SuAt w A1 A2 C D S u) (hl : u.t.ls.length ≤ 1000) (hc : u.ctl.length ≤ 1000) (hd : u.dat.length ≤ 1000) (hs : u.acs.length ≤ 1000) (hk : ∀ a ∈ u.acs, a.sn ≤ 1000) :
  Calls Tryz.prog 18 #[.agg (suC u A1 A2 C D S k1 k2 k3 k4 k5)] w fun e w' => e = .returned (.bool (suOk u)) ∧ Below w.heap.size w w' := by
 have HU := Lib.hid hU
 have HK := Lib.hid hk
 clear hU hk
 obtain ⟨R, hR⟩ : ∃ R, R = suOk u := ⟨_, rfl⟩
 rw [← hR]
 have HR := Lib.hid hR
 clear hR
 obtain ⟨t, h1, h2, h3, g, s, det, room, ctl, dat, acs⟩ := u
 unfold suC
 have hac : ¬ (65536 : Int) < (acs.length : Int) := by have : acs.length ≤ 1000 := hs; omega
 have hls : t.ls.length ≤ 1000 := hl
 have HS2 := Lib.hid (two_new w #[.int .i64 t.n, .slice A1 t.ov.length k1, .slice A2 t.ls.length k2, .int .i64 h1, .int .i64 h2, .int .i64 h3, .int .i64 g, .int .i64 s, .int .i64 det, .int .i64 room, .slice C ctl.length k3, .slice D dat.length k4, .slice S acs.length k5] #[.int .i64 t.n, .slice A1 t.ov.length k1, .slice A2 t.ls.length k2] 66 25)
 obtain ⟨b0, b1, b2, b3, b4, b5, b6, b7, b8, b9, b10, b11, b12, fb⟩ := (Bl.new w #[.int .i64 t.n, .slice A1 t.ov.length k1, .slice A2 t.ls.length k2, .int .i64 h1, .int .i64 h2, .int .i64 h3, .int .i64 g, .int .i64 s, .int .i64 det, .int .i64 room, .slice C ctl.length k3, .slice D dat.length k4, .slice S acs.length k5] 66).c13
 go_enter Tryz.func18, Tryz.ntmps18
 go_upto_region 2 with fail
 refine wp_named4 (fun Y => ∃ b tb, b = w.heap.size ∧ tb = w.heap.size + 1 ∧ VB w b tb #[.int .i64 t.n, .slice A1 t.ov.length k1, .slice A2 t.ls.length k2, .int .i64 h1, .int .i64 h2, .int .i64 h3, .int .i64 g, .int .i64 s, .int .i64 det, .int .i64 room, .slice C ctl.length k3, .slice D dat.length k4, .slice S acs.length k5] #[.int .i64 t.n, .slice A1 t.ov.length k1, .slice A2 t.ls.length k2] A1 A2 C D S ⟨t, h1, h2, h3, g, s, det, room, ctl, dat, acs⟩ Y) ⟨_, _, rfl, rfl, HS2.out.1, HS2.out.2, HU.out.below (below_two _ _ _), below_two _ _ _⟩ ?_
 rintro Y ⟨b, tb, hb, htb, hY⟩
 rw [← htb, ← hb]
 clear hb htb HU HS2 b0 b1 b2 b3 b4 b5 b6 b7 b8 b9 b10 b11 b12 fb
 have HV := Lib.hid hY
 clear hY
 obtain ⟨b0, b1, b2, b3, b4, b5, b6, b7, b8, b9, b10, b11, b12, fb⟩ := HV.out.x.c13; obtain ⟨t0, t1, t2, ft⟩ := HV.out.t.c3
 cases hv : valid t with
 | false =>
  have HVT := Lib.hid hv
  have hbad : R = false := by rw [HR.out]; simp [suOk, hv]
  clear hv HR
  go_wp2_with (go_at_call 54; with_reducible refine (topology_Valid t _ _ _ _ _ HV.out.u.t.ls).mono ?_; rw [HVT.out]; rintro e w5 ⟨rfl, hb⟩; replace HV := Lib.hid (HV.out.up hb); clear hb b0 b1 b2 b3 b4 b5 b6 b7 b8 b9 b10 b11 b12 fb t0 t1 t2 ft; obtain ⟨b0, b1, b2, b3, b4, b5, b6, b7, b8, b9, b10, b11, b12, fb⟩ := HV.out.x.c13; obtain ⟨t0, t1, t2, ft⟩ := HV.out.t.c3)
  exact bodyPost_ret (v := .bool false) (by simp [results, Tryz.results18, go_sem]) rfl ⟨by first | rfl | rw [hbad], HV.out.b⟩
 | true =>
 have HVT := Lib.hid hv
 clear hv
 cases hv : inR det 0 65536 with
 | false =>
  have HDT := Lib.hid hv
  have hbad : R = false := by rw [HR.out]; simp [suOk, hv]
  clear hv HR
  go_wp2_with first | (go_at_call 54; with_reducible refine (topology_Valid t _ _ _ _ _ HV.out.u.t.ls).mono ?_; rw [HVT.out]; rintro e w5 ⟨rfl, hb⟩; replace HV := Lib.hid (HV.out.up hb); clear hb b0 b1 b2 b3 b4 b5 b6 b7 b8 b9 b10 b11 b12 fb t0 t1 t2 ft; obtain ⟨b0, b1, b2, b3, b4, b5, b6, b7, b8, b9, b10, b11, b12, fb⟩ := HV.out.x.c13; obtain ⟨t0, t1, t2, ft⟩ := HV.out.t.c3) | (go_at_call 55; with_reducible refine (net_within det 0 65536).mono ?_; rw [HDT.out]; rintro e w6 ⟨rfl, hb⟩; replace HV := Lib.hid (HV.out.up hb); clear hb b0 b1 b2 b3 b4 b5 b6 b7 b8 b9 b10 b11 b12 fb t0 t1 t2 ft; obtain ⟨b0, b1, b2, b3, b4, b5, b6, b7, b8, b9, b10, b11, b12, fb⟩ := HV.out.x.c13; obtain ⟨t0, t1, t2, ft⟩ := HV.out.t.c3)
  exact bodyPost_ret (v := .bool false) (by simp [results, Tryz.results18, go_sem]) rfl ⟨by first | rfl | rw [hbad], HV.out.b⟩
 | true =>
 have HDT := Lib.hid hv
 clear hv
 cases hv : inR room 0 65536 with
 | false =>
  have HRT := Lib.hid hv
  have hbad : R = false := by rw [HR.out]; simp [suOk, hv]
  clear hv HR
  go_wp2_with first | (go_at_call 54; with_reducible refine (topology_Valid t _ _ _ _ _ HV.out.u.t.ls).mono ?_; rw [HVT.out]; rintro e w5 ⟨rfl, hb⟩; replace HV := Lib.hid (HV.out.up hb); clear hb b0 b1 b2 b3 b4 b5 b6 b7 b8 b9 b10 b11 b12 fb t0 t1 t2 ft; obtain ⟨b0, b1, b2, b3, b4, b5, b6, b7, b8, b9, b10, b11, b12, fb⟩ := HV.out.x.c13; obtain ⟨t0, t1, t2, ft⟩ := HV.out.t.c3) | (go_at_call 55; with_reducible refine (net_within det 0 65536).mono ?_; rw [HDT.out]; rintro e w6 ⟨rfl, hb⟩; replace HV := Lib.hid (HV.out.up hb); clear hb b0 b1 b2 b3 b4 b5 b6 b7 b8 b9 b10 b11 b12 fb t0 t1 t2 ft; obtain ⟨b0, b1, b2, b3, b4, b5, b6, b7, b8, b9, b10, b11, b12, fb⟩ := HV.out.x.c13; obtain ⟨t0, t1, t2, ft⟩ := HV.out.t.c3) | (go_at_call 55; with_reducible refine (net_within room 0 65536).mono ?_; rw [HRT.out]; rintro e w7 ⟨rfl, hb⟩; replace HV := Lib.hid (HV.out.up hb); clear hb b0 b1 b2 b3 b4 b5 b6 b7 b8 b9 b10 b11 b12 fb t0 t1 t2 ft; obtain ⟨b0, b1, b2, b3, b4, b5, b6, b7, b8, b9, b10, b11, b12, fb⟩ := HV.out.x.c13; obtain ⟨t0, t1, t2, ft⟩ := HV.out.t.c3)
  exact bodyPost_ret (v := .bool false) (by simp [results, Tryz.results18, go_sem]) rfl ⟨by first | rfl | rw [hbad], HV.out.b⟩
 | true =>
 have HRT := Lib.hid hv
 clear hv
 go_wp2_with first | (go_at_call 54; with_reducible refine (topology_Valid t _ _ _ _ _ HV.out.u.t.ls).mono ?_; rw [HVT.out]; rintro e w5 ⟨rfl, hb⟩; replace HV := Lib.hid (HV.out.up hb); clear hb b0 b1 b2 b3 b4 b5 b6 b7 b8 b9 b10 b11 b12 fb t0 t1 t2 ft; obtain ⟨b0, b1, b2, b3, b4, b5, b6, b7, b8, b9, b10, b11, b12, fb⟩ := HV.out.x.c13; obtain ⟨t0, t1, t2, ft⟩ := HV.out.t.c3) | (go_at_call 55; with_reducible refine (net_within det 0 65536).mono ?_; rw [HDT.out]; rintro e w6 ⟨rfl, hb⟩; replace HV := Lib.hid (HV.out.up hb); clear hb b0 b1 b2 b3 b4 b5 b6 b7 b8 b9 b10 b11 b12 fb t0 t1 t2 ft; obtain ⟨b0, b1, b2, b3, b4, b5, b6, b7, b8, b9, b10, b11, b12, fb⟩ := HV.out.x.c13; obtain ⟨t0, t1, t2, ft⟩ := HV.out.t.c3) | (go_at_call 55; with_reducible refine (net_within room 0 65536).mono ?_; rw [HRT.out]; rintro e w7 ⟨rfl, hb⟩; replace HV := Lib.hid (HV.out.up hb); clear hb b0 b1 b2 b3 b4 b5 b6 b7 b8 b9 b10 b11 b12 fb t0 t1 t2 ft; obtain ⟨b0, b1, b2, b3, b4, b5, b6, b7, b8, b9, b10, b11, b12, fb⟩ := HV.out.x.c13; obtain ⟨t0, t1, t2, ft⟩ := HV.out.t.c3)
 -- the timers
 refine wp_named4 (fun Y => VB w b tb #[.int .i64 t.n, .slice A1 t.ov.length k1, .slice A2 t.ls.length k2, .int .i64 h1, .int .i64 h2, .int .i64 h3, .int .i64 g, .int .i64 s, .int .i64 det, .int .i64 room, .slice C ctl.length k3, .slice D dat.length k4, .slice S acs.length k5] #[.int .i64 t.n, .slice A1 t.ov.length k1, .slice A2 t.ls.length k2] A1 A2 C D S ⟨t, h1, h2, h3, g, s, det, room, ctl, dat, acs⟩ Y) HV.out ?_
 rintro W1 hY
 replace HV := Lib.hid hY
 clear hY b0 b1 b2 b3 b4 b5 b6 b7 b8 b9 b10 b11 b12 fb t0 t1 t2 ft
 obtain ⟨xs, hxs⟩ : ∃ xs, xs = [h1, h2, h3, g, s] := ⟨_, rfl⟩
 have HXL : Hid (xs.length = 5) := Lib.hid (by rw [hxs]; rfl)
 have HXS := Lib.hid hxs
 clear hxs
 go_loopg [48] 5 (fun gg i wx => ∃ q : Nat, q + gg = 5 ∧ i = .int .i64 q ∧ Hid (∀ j x, j < q → xs[j]? = some x → inR x 1 65536 = true) ∧ Hid (VB w b tb #[.int .i64 t.n, .slice A1 t.ov.length k1, .slice A2 t.ls.length k2, .int .i64 h1, .int .i64 h2, .int .i64 h3, .int .i64 g, .int .i64 s, .int .i64 det, .int .i64 room, .slice C ctl.length k3, .slice D dat.length k4, .slice S acs.length k5] #[.int .i64 t.n, .slice A1 t.ov.length k1, .slice A2 t.ls.length k2] A1 A2 C D S ⟨t, h1, h2, h3, g, s, det, room, ctl, dat, acs⟩ wx))
 case atStart => exact ⟨0, rfl, rfl, Lib.hid (fun j x hj => absurd hj (by omega)), HV⟩
 case round =>
  obtain ⟨q, hq, rfl, HOK, HV⟩ := hrel
  by_cases hlt : q < 5
  ·have hlt' : (q : Int) < 5 := by omega
   obtain ⟨x, hx⟩ : ∃ x, xs[q]? = some x := ⟨_, List.getElem?_eq_getElem (by have := HXL.out; omega)⟩
   have hix := nidx5 (by rw [← HXS.out]; exact hx)
   have HXx := Lib.hid hx
   clear hx
   obtain ⟨b0, b1, b2, b3, b4, b5, b6, b7, b8, b9, b10, b11, b12, fb⟩ := HV.out.x.c13; obtain ⟨t0, t1, t2, ft⟩ := HV.out.t.c3
   cases hv : inR x 1 65536 with
   | false =>
    have HIN := Lib.hid hv
    have hbad : R = false := by rw [HR.out]; simp [suOk, ← HXS.out, tms_bad HXx.out hv]
    clear hv HR
    go_wp2_with (go_at_call 55; with_reducible refine (net_within x 1 65536).mono ?_; rw [HIN.out]; rintro e w9 ⟨rfl, hb⟩; replace HV := Lib.hid (HV.out.up hb); clear hb b0 b1 b2 b3 b4 b5 b6 b7 b8 b9 b10 b11 b12 fb t0 t1 t2 ft; obtain ⟨b0, b1, b2, b3, b4, b5, b6, b7, b8, b9, b10, b11, b12, fb⟩ := HV.out.x.c13; obtain ⟨t0, t1, t2, ft⟩ := HV.out.t.c3)
    exact bodyPost_ret (v := .bool false) (by simp [results, Tryz.results18, go_sem]) rfl ⟨by first | rfl | rw [hbad], HV.out.b⟩
   | true =>
    have HIN := Lib.hid hv
    clear hv
    go_wp2_with (go_at_call 55; with_reducible refine (net_within x 1 65536).mono ?_; rw [HIN.out]; rintro e w9 ⟨rfl, hb⟩; replace HV := Lib.hid (HV.out.up hb); clear hb b0 b1 b2 b3 b4 b5 b6 b7 b8 b9 b10 b11 b12 fb t0 t1 t2 ft; obtain ⟨b0, b1, b2, b3, b4, b5, b6, b7, b8, b9, b10, b11, b12, fb⟩ := HV.out.x.c13; obtain ⟨t0, t1, t2, ft⟩ := HV.out.t.c3)
    go_roundg (gk - 1)
    case measure => omega
    case rel =>
     refine ⟨q + 1, by omega, by go_num, Lib.hid (fun j y hj hy => ?_), HV⟩
     by_cases hjq : j = q
     ·subst hjq
      rw [HXx.out] at hy
      injection hy with hy
      subst hy
      exact HIN.out
     ·exact HOK.out j y (by omega) hy
  ·obtain rfl : q = 5 := by omega
   have HTM : Hid (tmsOk [h1, h2, h3, g, s] = true) := Lib.hid (by
    rw [← HXS.out]
    refine List.all_eq_true.2 (fun y hy => ?_)
    obtain ⟨j, hj, rfl⟩ := List.getElem_of_mem hy
    exact HOK.out j _ (by have := HXL.out; omega) (List.getElem?_eq_getElem hj))
   obtain ⟨b0, b1, b2, b3, b4, b5, b6, b7, b8, b9, b10, b11, b12, fb⟩ := HV.out.x.c13; obtain ⟨t0, t1, t2, ft⟩ := HV.out.t.c3
   clear HOK HXS HXL hlt hq
   go_wp2_with fail
   -- the fates
   refine wp_named4 (fun Y => VB w b tb #[.int .i64 t.n, .slice A1 t.ov.length k1, .slice A2 t.ls.length k2, .int .i64 h1, .int .i64 h2, .int .i64 h3, .int .i64 g, .int .i64 s, .int .i64 det, .int .i64 room, .slice C ctl.length k3, .slice D dat.length k4, .slice S acs.length k5] #[.int .i64 t.n, .slice A1 t.ov.length k1, .slice A2 t.ls.length k2] A1 A2 C D S ⟨t, h1, h2, h3, g, s, det, room, ctl, dat, acs⟩ Y) HV.out ?_
   rintro W2 hY
   replace HV := Lib.hid hY
   clear hY b0 b1 b2 b3 b4 b5 b6 b7 b8 b9 b10 b11 b12 fb t0 t1 t2 ft
   go_loopg [60] 2 (fun gg i wx => ∃ q : Nat, q + gg = 2 ∧ i = .int .i64 q ∧ Hid ((1 ≤ q → fok t ctl = true) ∧ (2 ≤ q → fok t dat = true)) ∧ Hid (VB w b tb #[.int .i64 t.n, .slice A1 t.ov.length k1, .slice A2 t.ls.length k2, .int .i64 h1, .int .i64 h2, .int .i64 h3, .int .i64 g, .int .i64 s, .int .i64 det, .int .i64 room, .slice C ctl.length k3, .slice D dat.length k4, .slice S acs.length k5] #[.int .i64 t.n, .slice A1 t.ov.length k1, .slice A2 t.ls.length k2] A1 A2 C D S ⟨t, h1, h2, h3, g, s, det, room, ctl, dat, acs⟩ wx))
   case atStart => exact ⟨0, rfl, rfl, Lib.hid ⟨fun h => absurd h (by omega), fun h => absurd h (by omega)⟩, HV⟩
   case round =>
    obtain ⟨q, hq, rfl, HOK, HV⟩ := hrel
    obtain ⟨b0, b1, b2, b3, b4, b5, b6, b7, b8, b9, b10, b11, b12, fb⟩ := HV.out.x.c13; obtain ⟨t0, t1, t2, ft⟩ := HV.out.t.c3
    by_cases hlt : q < 2
    ·have hlt' : (q : Int) < 2 := by omega
     obtain ⟨X, k, Lx, hx, hLx, hor⟩ := two_fates (k3 := k3) (k4 := k4) HV.out.u.c HV.out.u.d q hlt
     have hix := nidx2 hx
     have HLX := Lib.hid hLx
     have HOR := Lib.hid hor
     have hLl : Lx.length ≤ 1000 := by rcases hor with ⟨_, rfl⟩ | ⟨_, rfl⟩ <;> assumption
     have HBAD : Hid (fok t Lx = false → R = false) := Lib.hid fun h => by
      rw [HR.out]
      rcases HOR.out with ⟨_, rfl⟩ | ⟨_, rfl⟩
      ·simp only [suOk_fok, h]; simp
      ·simp only [suOk_fok, h]; simp
     clear hx hLx hor
     by_cases hq1 : 2 * (t.ls.length : Int) < (Lx.length : Int)
     ·have hbad := HBAD.out (by simp [fok]; omega)
      go_wp2_with (go_at_call 56; with_reducible refine (graph_Arcs _ _ _ _ _ _ (by omega)).mono ?_; rintro e w4 ⟨rfl, hb⟩; have hb3 := hb; replace HV := Lib.hid (HV.out.up hb); clear hb b0 b1 b2 b3 b4 b5 b6 b7 b8 b9 b10 b11 b12 fb t0 t1 t2 ft; obtain ⟨b0, b1, b2, b3, b4, b5, b6, b7, b8, b9, b10, b11, b12, fb⟩ := HV.out.x.c13; obtain ⟨t0, t1, t2, ft⟩ := HV.out.t.c3)
      exact bodyPost_ret (v := .bool false) (by simp [results, Tryz.results18, go_sem]) rfl ⟨by first | rfl | rw [hbad], HV.out.b⟩
     go_wp2_with (go_at_call 56; with_reducible refine (graph_Arcs _ _ _ _ _ _ (by omega)).mono ?_; rintro e w4 ⟨rfl, hb⟩; have hb3 := hb; replace HV := Lib.hid (HV.out.up hb); clear hb b0 b1 b2 b3 b4 b5 b6 b7 b8 b9 b10 b11 b12 fb t0 t1 t2 ft; obtain ⟨b0, b1, b2, b3, b4, b5, b6, b7, b8, b9, b10, b11, b12, fb⟩ := HV.out.x.c13; obtain ⟨t0, t1, t2, ft⟩ := HV.out.t.c3)
     replace HLX := Lib.hid (HLX.out.below hb3)
     refine wp_named4 (fun Y => VB w b tb #[.int .i64 t.n, .slice A1 t.ov.length k1, .slice A2 t.ls.length k2, .int .i64 h1, .int .i64 h2, .int .i64 h3, .int .i64 g, .int .i64 s, .int .i64 det, .int .i64 room, .slice C ctl.length k3, .slice D dat.length k4, .slice S acs.length k5] #[.int .i64 t.n, .slice A1 t.ov.length k1, .slice A2 t.ls.length k2] A1 A2 C D S ⟨t, h1, h2, h3, g, s, det, room, ctl, dat, acs⟩ Y ∧ FtAt Y X Lx) ⟨HV.out, HLX.out⟩ ?_
     rintro W3 ⟨hY, hY2⟩
     replace HV := Lib.hid hY
     replace HLX := Lib.hid hY2
     clear hY hY2 hb3 b0 b1 b2 b3 b4 b5 b6 b7 b8 b9 b10 b11 b12 fb t0 t1 t2 ft
     obtain ⟨gq, hgq⟩ : ∃ n, n = gk := ⟨_, rfl⟩
     go_loopg [70] Lx.length (fun gg i wx => ∃ p : Nat, p + gg = Lx.length ∧ i = .int .i64 p ∧ Hid (∀ j x, j < p → Lx[j]? = some x → x.2.2.all fateOk = true) ∧ Hid (VB w b tb #[.int .i64 t.n, .slice A1 t.ov.length k1, .slice A2 t.ls.length k2, .int .i64 h1, .int .i64 h2, .int .i64 h3, .int .i64 g, .int .i64 s, .int .i64 det, .int .i64 room, .slice C ctl.length k3, .slice D dat.length k4, .slice S acs.length k5] #[.int .i64 t.n, .slice A1 t.ov.length k1, .slice A2 t.ls.length k2] A1 A2 C D S ⟨t, h1, h2, h3, g, s, det, room, ctl, dat, acs⟩ wx) ∧ Hid (FtAt wx X Lx))
     case atStart => exact ⟨0, by omega, rfl, Lib.hid (fun j f hj => absurd hj (by omega)), HV, HLX⟩
     case round =>
      obtain ⟨p, hp, rfl, HPK, HV, HLX⟩ := hrel
      by_cases hlt2 : p < Lx.length
      ·have hlt2' : (p : Int) < (Lx.length : Int) := by omega
       obtain ⟨y, hy⟩ : ∃ y, Lx[p]? = some y := ⟨_, List.getElem?_eq_getElem hlt2⟩
       obtain ⟨bz, oz, rfl, cf⟩ := HLX.out.at_ hy
       obtain ⟨xa, xc, fs⟩ := y
       have cf' : wr.cell? ⟨bz, oz + p, none⟩ = some (.slice xa fs.length xc) := cf
       have HF := Lib.hid hy
       have HE := Lib.hid (HLX.out.each _ (List.mem_of_getElem? hy))
       clear hy cf
       cases hok : fs.all fateOk with
       | false =>
        have HFK := Lib.hid (chan0.trans hok)
        have hbad := HBAD.out (by rw [fok, ft_bad HF.out hok]; rfl)
        clear hok
        go_wp2_with (go_at_call 57; with_reducible refine (channel_New 1 1 0 xa xc fs HE.out.1 HE.out.2).mono ?_; rw [HFK.out]; rintro e w5 ⟨⟨cb, rfl, -⟩, hb⟩; replace HLX := Lib.hid (HLX.out.below hb); replace HV := Lib.hid (HV.out.up hb); clear hb cf')
        exact bodyPost_ret (v := .bool false) (by simp [results, Tryz.results18, go_sem]) rfl ⟨by first | rfl | rw [hbad], HV.out.b⟩
       | true =>
        have HFK := Lib.hid (chan0.trans hok)
        clear hok
        go_wp2_with (go_at_call 57; with_reducible refine (channel_New 1 1 0 xa xc fs HE.out.1 HE.out.2).mono ?_; rw [HFK.out]; rintro e w5 ⟨⟨cb, rfl, -⟩, hb⟩; replace HLX := Lib.hid (HLX.out.below hb); replace HV := Lib.hid (HV.out.up hb); clear hb cf')
        go_roundg (gk - 1)
        case measure => omega
        case rel =>
         refine ⟨p + 1, by omega, by go_num, Lib.hid (fun j z hj hz => ?_), HV, HLX⟩
         by_cases hjp : j = p
         ·subst hjp
          rw [HF.out] at hz
          injection hz with hz
          subst hz
          exact chan0.symm.trans HFK.out
         ·exact HPK.out j z (by omega) hz
      ·obtain rfl : p = Lx.length := by omega
       have HFL : Hid (fok t Lx = true) := Lib.hid (by
        have h1 : ftOk Lx = true := List.all_eq_true.2 (fun y hy => by
         obtain ⟨j, hj, rfl⟩ := List.getElem_of_mem hy
         exact HPK.out j _ hj (List.getElem?_eq_getElem hj))
        rw [fok, h1]
        simp; omega)
       go_wp2_with fail
       go_roundg (gq - 1)
       case measure => omega
       case rel =>
        refine ⟨q + 1, by omega, by go_num, Lib.hid ⟨fun h => ?_, fun h => ?_⟩, HV⟩
        ·rcases HOR.out with ⟨h0, rfl⟩ | ⟨h0, _⟩
         ·exact HFL.out
         ·exact HOK.out.1 (by omega)
        ·rcases HOR.out with ⟨h0, _⟩ | ⟨h0, rfl⟩
         ·omega
         ·exact HFL.out
    ·obtain rfl : q = 2 := by omega
     have HFC : Hid (fok t ctl = true ∧ fok t dat = true) := Lib.hid ⟨HOK.out.1 (by omega), HOK.out.2 (by omega)⟩
     clear HOK
     have HRE : Hid (R = acsOk t 1 acs) := Lib.hid (by
      have hac' : acs.length ≤ 65536 := by have : acs.length ≤ 1000 := hs; omega
      rw [HR.out]
      simp [suOk_fok, HVT.out, HDT.out, HRT.out, HTM.out, HFC.out.1, HFC.out.2, hac'])
     clear HR HFC HTM hlt hq
     go_wp2_with fail
     refine wp_named4 (fun Y => VB w b tb #[.int .i64 t.n, .slice A1 t.ov.length k1, .slice A2 t.ls.length k2, .int .i64 h1, .int .i64 h2, .int .i64 h3, .int .i64 g, .int .i64 s, .int .i64 det, .int .i64 room, .slice C ctl.length k3, .slice D dat.length k4, .slice S acs.length k5] #[.int .i64 t.n, .slice A1 t.ov.length k1, .slice A2 t.ls.length k2] A1 A2 C D S ⟨t, h1, h2, h3, g, s, det, room, ctl, dat, acs⟩ Y) HV.out ?_
     rintro W4 hY
     replace HV := Lib.hid hY
     clear hY b0 b1 b2 b3 b4 b5 b6 b7 b8 b9 b10 b11 b12 fb t0 t1 t2 ft
     go_loopg [12, 90] acs.length (fun gg tv i wx => ∃ (q : Nat) (tm : Int), q + gg = acs.length ∧ tv = .int .i64 tm ∧ i = .int .i64 q ∧ Hid ((q = 0 → tm = 1) ∧ ∀ j c, q = j + 1 → acs[j]? = some c → tm = c.time) ∧ Hid (∀ j, j < q → AcR t acs j) ∧ Hid (VB w b tb #[.int .i64 t.n, .slice A1 t.ov.length k1, .slice A2 t.ls.length k2, .int .i64 h1, .int .i64 h2, .int .i64 h3, .int .i64 g, .int .i64 s, .int .i64 det, .int .i64 room, .slice C ctl.length k3, .slice D dat.length k4, .slice S acs.length k5] #[.int .i64 t.n, .slice A1 t.ov.length k1, .slice A2 t.ls.length k2] A1 A2 C D S ⟨t, h1, h2, h3, g, s, det, room, ctl, dat, acs⟩ wx))
     case atStart => exact ⟨0, 1, by omega, rfl, rfl, Lib.hid ⟨fun _ => rfl, fun j c hj => absurd hj (by omega)⟩, Lib.hid (fun j hj => absurd hj (by omega)), HV⟩
     case round =>
      obtain ⟨q, tm, hq, rfl, rfl, HTQ, HOK, HV⟩ := hrel
      obtain ⟨b0, b1, b2, b3, b4, b5, b6, b7, b8, b9, b10, b11, b12, fb⟩ := HV.out.x.c13; obtain ⟨t0, t1, t2, ft⟩ := HV.out.t.c3
      by_cases hlt : q < acs.length
      ·have hlt' : (q : Int) < (acs.length : Int) := by omega
       obtain ⟨a, hx⟩ : ∃ a, acs[q]? = some a := ⟨_, List.getElem?_eq_getElem hlt⟩
       obtain ⟨bz, oz, rfl, hcs⟩ := act_at HV.out.u.s hx
       have HXx := Lib.hid hx
       have HSN := Lib.hid (HK.out a (List.mem_of_getElem? hx))
       clear hx
       obtain ⟨a0, a1, a2, a3, a4, a5, a6, a7, a8, a9, a10, a11, a12, a13⟩ := ac_cells hcs
       clear hcs
       go_upto_region 29 with fail
       refine wp_named4 (fun Y => (∃ sb, sb = wr.heap.size ∧ Bl 127 sb #[.int .i64 a.time, .int .i64 a.kind, .int .i64 a.id, .int .i64 a.src, .int .i64 a.dst, .int .i64 a.p3, .slice a.st a.sn a.sc, .int .i64 a.p5, .int .i64 a.ck, .int .i64 a.cm, .int .i64 a.node, .bool a.on, .int .i64 a.arc, .int .i64 a.cost] Y) ∧ VB w b tb #[.int .i64 t.n, .slice A1 t.ov.length k1, .slice A2 t.ls.length k2, .int .i64 h1, .int .i64 h2, .int .i64 h3, .int .i64 g, .int .i64 s, .int .i64 det, .int .i64 room, .slice C ctl.length k3, .slice D dat.length k4, .slice (some ⟨bz, oz, none⟩) acs.length k5] #[.int .i64 t.n, .slice A1 t.ov.length k1, .slice A2 t.ls.length k2] A1 A2 C D (some ⟨bz, oz, none⟩) ⟨t, h1, h2, h3, g, s, det, room, ctl, dat, acs⟩ Y) ⟨⟨_, rfl, Bl.new _ _ _⟩, HV.out.up (below_box _ _)⟩ ?_
       rintro Y2 ⟨⟨sb, hsb, hY0⟩, hY1⟩
       rw [← hsb]
       clear hsb b0 b1 b2 b3 b4 b5 b6 b7 b8 b9 b10 b11 b12 fb t0 t1 t2 ft a0 a1 a2 a3 a4 a5 a6 a7 a8 a9 a10 a11 a12 a13
       replace HV := Lib.hid hY1
       have HBX := Lib.hid hY0
       clear hY0 hY1
       obtain ⟨b0, b1, b2, b3, b4, b5, b6, b7, b8, b9, b10, b11, b12, fb⟩ := HV.out.x.c13; obtain ⟨t0, t1, t2, ft⟩ := HV.out.t.c3
       obtain ⟨s0, s1, s2, s3, s4, s5, s6, s7, s8, s9, s10, s11, s12, s13, fs⟩ := HBX.out.c14
       have bad : Hid (¬ AcR t acs q → R = false) := Lib.hid fun h => by
        rw [HRE.out]
        cases hc : acsOk t 1 acs with
        | false => rfl
        | true => exact absurd (((acsOk_iff acs 1 (by decide)).1 hc).2 q) h
       have HT1 : Hid (∀ j c, q = j + 1 → acs[j]? = some c → 1 ≤ c.time) := Lib.hid fun j c hj hc => (HOK.out j (by omega) c hc).2.1
       cases hin : inR a.time tm 1073741824 with
       | false =>
        have HIN := Lib.hid hin
        have hbad := bad.out (fun h => by
         obtain ⟨g1, g2, g3, g4⟩ := h a HXx.out
         have h6 := inR_false.1 hin
         cases q with
         | zero => have := HTQ.out.1 rfl; omega
         | succ q =>
          obtain ⟨c, hc⟩ : ∃ c, acs[q]? = some c := ⟨_, List.getElem?_eq_getElem (by omega)⟩
          have h7 := HTQ.out.2 q c rfl hc
          have h8 := g4 q c rfl hc
          omega)
        clear hin
        go_wp2_with (go_at_call 55; with_reducible refine (net_within a.time tm 1073741824).mono ?_; rw [HIN.out]; rintro e w9 ⟨rfl, hb⟩; replace HBX := Lib.hid (HBX.out.up hb); replace HV := Lib.hid (HV.out.up hb); clear hb b0 b1 b2 b3 b4 b5 b6 b7 b8 b9 b10 b11 b12 fb t0 t1 t2 ft s0 s1 s2 s3 s4 s5 s6 s7 s8 s9 s10 s11 s12 s13 fs; obtain ⟨b0, b1, b2, b3, b4, b5, b6, b7, b8, b9, b10, b11, b12, fb⟩ := HV.out.x.c13; obtain ⟨t0, t1, t2, ft⟩ := HV.out.t.c3; obtain ⟨s0, s1, s2, s3, s4, s5, s6, s7, s8, s9, s10, s11, s12, s13, fs⟩ := HBX.out.c14)
        exact bodyPost_ret (v := .bool false) (by simp [results, Tryz.results18, go_sem]) rfl ⟨by first | rfl | rw [hbad], HV.out.b⟩
       | true =>
        have HIN := Lib.hid hin
        clear hin
        cases hok : acOk t a with
        | false =>
         have HOKA := Lib.hid hok
         have hbad := bad.out (fun h => by have := (h a HXx.out).1; rw [hok] at this; cases this)
         clear hok
         go_wp2_with first | (go_at_call 55; with_reducible refine (net_within a.time tm 1073741824).mono ?_; rw [HIN.out]; rintro e w9 ⟨rfl, hb⟩; replace HBX := Lib.hid (HBX.out.up hb); replace HV := Lib.hid (HV.out.up hb); clear hb b0 b1 b2 b3 b4 b5 b6 b7 b8 b9 b10 b11 b12 fb t0 t1 t2 ft s0 s1 s2 s3 s4 s5 s6 s7 s8 s9 s10 s11 s12 s13 fs; obtain ⟨b0, b1, b2, b3, b4, b5, b6, b7, b8, b9, b10, b11, b12, fb⟩ := HV.out.x.c13; obtain ⟨t0, t1, t2, ft⟩ := HV.out.t.c3; obtain ⟨s0, s1, s2, s3, s4, s5, s6, s7, s8, s9, s10, s11, s12, s13, fs⟩ := HBX.out.c14) | (go_at_call 58; with_reducible refine (net_validAct t A1 A2 k1 k2 a HV.out.u.t (by omega) (by have := HSN.out; omega)).mono ?_; rw [HOKA.out]; rintro e w8 ⟨rfl, hb⟩; replace HBX := Lib.hid (HBX.out.up hb); replace HV := Lib.hid (HV.out.up hb); clear hb b0 b1 b2 b3 b4 b5 b6 b7 b8 b9 b10 b11 b12 fb t0 t1 t2 ft s0 s1 s2 s3 s4 s5 s6 s7 s8 s9 s10 s11 s12 s13 fs; obtain ⟨b0, b1, b2, b3, b4, b5, b6, b7, b8, b9, b10, b11, b12, fb⟩ := HV.out.x.c13; obtain ⟨t0, t1, t2, ft⟩ := HV.out.t.c3; obtain ⟨s0, s1, s2, s3, s4, s5, s6, s7, s8, s9, s10, s11, s12, s13, fs⟩ := HBX.out.c14)
         exact bodyPost_ret (v := .bool false) (by simp [results, Tryz.results18, go_sem]) rfl ⟨by first | rfl | rw [hbad], HV.out.b⟩
        | true =>
         have HOKA := Lib.hid hok
         clear hok
         go_wp2_with first | (go_at_call 55; with_reducible refine (net_within a.time tm 1073741824).mono ?_; rw [HIN.out]; rintro e w9 ⟨rfl, hb⟩; replace HBX := Lib.hid (HBX.out.up hb); replace HV := Lib.hid (HV.out.up hb); clear hb b0 b1 b2 b3 b4 b5 b6 b7 b8 b9 b10 b11 b12 fb t0 t1 t2 ft s0 s1 s2 s3 s4 s5 s6 s7 s8 s9 s10 s11 s12 s13 fs; obtain ⟨b0, b1, b2, b3, b4, b5, b6, b7, b8, b9, b10, b11, b12, fb⟩ := HV.out.x.c13; obtain ⟨t0, t1, t2, ft⟩ := HV.out.t.c3; obtain ⟨s0, s1, s2, s3, s4, s5, s6, s7, s8, s9, s10, s11, s12, s13, fs⟩ := HBX.out.c14) | (go_at_call 58; with_reducible refine (net_validAct t A1 A2 k1 k2 a HV.out.u.t (by omega) (by have := HSN.out; omega)).mono ?_; rw [HOKA.out]; rintro e w8 ⟨rfl, hb⟩; replace HBX := Lib.hid (HBX.out.up hb); replace HV := Lib.hid (HV.out.up hb); clear hb b0 b1 b2 b3 b4 b5 b6 b7 b8 b9 b10 b11 b12 fb t0 t1 t2 ft s0 s1 s2 s3 s4 s5 s6 s7 s8 s9 s10 s11 s12 s13 fs; obtain ⟨b0, b1, b2, b3, b4, b5, b6, b7, b8, b9, b10, b11, b12, fb⟩ := HV.out.x.c13; obtain ⟨t0, t1, t2, ft⟩ := HV.out.t.c3; obtain ⟨s0, s1, s2, s3, s4, s5, s6, s7, s8, s9, s10, s11, s12, s13, fs⟩ := HBX.out.c14)
         go_roundg (gk - 1)
         case measure => omega
         case rel =>
          refine ⟨q + 1, a.time, by omega, rfl, by go_num, Lib.hid ⟨fun h => absurd h (by omega), fun j c hj hc => ?_⟩, Lib.hid (fun j hj => ?_), HV⟩
          ·obtain rfl : j = q := by omega
           rw [HXx.out] at hc
           injection hc with hc
           rw [hc]
          ·by_cases hjq : j = q
           ·subst hjq
            intro c hc
            rw [HXx.out] at hc
            injection hc with hc
            subst hc
            have h6 := inR_true.1 HIN.out
            refine ⟨HOKA.out, ?_, h6.2, fun i b hi hb => ?_⟩
            ·cases j with
             | zero => have := HTQ.out.1 rfl; omega
             | succ j =>
              obtain ⟨c, hc⟩ : ∃ c, acs[j]? = some c := ⟨_, List.getElem?_eq_getElem (by omega)⟩
              have h7 := HTQ.out.2 j c rfl hc
              have h8 := HT1.out j c rfl hc
              omega
            ·have h7 := HTQ.out.2 i b hi hb
             omega
           ·exact HOK.out j (by omega)
      ·obtain rfl : q = acs.length := by omega
       have hAO : R = true := by
        rw [HRE.out]
        exact (acsOk_iff acs 1 (by decide)).2 ⟨fun a ha => (HOK.out 0 (List.getElem?_eq_some_iff.1 ha).1 a ha).2.1, fun k a ha => HOK.out k (List.getElem?_eq_some_iff.1 ha).1 a ha⟩
       go_wp2_with fail
       exact bodyPost_ret (v := .bool true) (by simp [results, Tryz.results18, go_sem]) rfl ⟨by first | rfl | rw [hAO], HV.out.b⟩
end
end Go.Proofs.YtenhliibmcmnbaaGreat
namespace Go.Proofs.YtenhliibmcmnbaaGreat
set_option linter.unusedSimpArgs false
set_option linter.unusedVariables false
open Go.RowKit Go.Sort
theorem Kp.grown {X : List Nat} {W W1 W2 : World} {r : Option Nat} (h : Kp X W W1) (hg : W1.grownBy W2 r) (hr : ∀ b, r = some b → b ∈ X ∨ W.heap.size ≤ b) : Kp X W W2 :=
 ⟨hg.os.trans h.os, hg.tape.trans h.tape, hg.output.trans h.output, Nat.le_trans h.size hg.size, fun k hk hn => (hg.block k (Nat.lt_of_lt_of_le hk h.size) (fun e => (hr k e.symm).elim hn (fun h => by omega))).trans (h.blk k hk hn)⟩
theorem Bl.grown {T : TypeId} {b : Nat} {cs : Array Value} {w w' : World} {r : Option Nat} (h : Bl T b cs w) (hg : w.grownBy w' r) (hne : some b ≠ r) : Bl T b cs w' := (hg.block b h.lt hne).trans h
theorem Bl.ne {T T' : TypeId} {b c : Nat} {cs cs' : Array Value} {w : World} (h : Bl T b cs w) (g : Bl T' c cs' w) (hs : cs.size ≠ cs'.size) : b ≠ c := by
 rintro rfl
 unfold Bl at h g
 rw [h] at g
 injection g with g
 injection g with g1 _ _
 exact hs (by rw [g1])
/-- A speaker that has just been made: its topology, its database with its own advertisement. -/
def SpkAt (t : Topo) (v : Int) (sb : Nat) (w : World) : Prop :=
 ∃ (db mb : Nat) (B1 B2 : Option Addr) (d1 d2 : Nat) (x3 x4 x5 x6 x7 x8 x9 x10 x11 x13 x14 : Value), Bl 160 sb #[.int .i64 t.n, .slice B1 t.ov.length d1, .slice B2 t.ls.length d2, x3, x4, x5, x6, x7, x8, x9, x10, x11, .pointer (some ⟨db, 0, none⟩), x13, x14] w ∧ TAt w B1 B2 t ∧ Bl 242 db #[.map (some mb)] w ∧ MapAt Tryz.prog 3 mb [(.int .i64 v, heldV v (over t v))] w
theorem SpkAt.up {t : Topo} {v : Int} {sb : Nat} {w w' : World} (h : SpkAt t v sb w) (hb : Below w.heap.size w w') : SpkAt t v sb w' := by
 obtain ⟨db, mb, B1, B2, d1, d2, x3, x4, x5, x6, x7, x8, x9, x10, x11, x13, x14, h1, h2, h3, h4⟩ := h
 exact ⟨db, mb, B1, B2, d1, d2, x3, x4, x5, x6, x7, x8, x9, x10, x11, x13, x14, h1.up hb, h2.below hb, h3.up hb, h4.up hb⟩
/-- make([]bool, n): the world behind it. -/
def mkW (n : Nat) (w : World) : World := w.alloc (.cells (madeCells #[.bool false] n) 4)
theorem boolInfoR : (Tryz.prog.info? 4).map (fun i => (i.zero, i.size, i.bytes)) = some (some (.bool false), 1, 1) := by kernel_rfl
theorem run_mkW (n : Nat) (h : n ≤ 1000000) (w : World) : (Instr.makeSlice 22 (.int .i64 (n : Int)) (.int .i64 (n : Int))).run Tryz.prog w = .ok (.slice (some ⟨w.heap.size, 0, none⟩) n n) (mkW n w) := by
 obtain ⟨i0, hi, hz0, hz1, hz2⟩ := info_parts boolInfoR
 have hr := run_make (P := Tryz.prog) w 22 4 i0 (.bool false) Tryz.underlying22 hi hz0 .i64 .i64 (n : Int) (n : Int) (by omega) (Int.le_refl _) (by rw [hz2]; omega) (by omega)
 rw [hr, hz1, show ((n : Int)).toNat = n by omega, Nat.mul_one]
 rfl
theorem mkW_below (n : Nat) (w : World) : Below w.heap.size w (mkW n w) := below_box w _
theorem mkW_own (n : Nat) (h : n ≤ 1000000) (w : World) (base : Nat) (hb : base ≤ w.heap.size) : (mkW n w).ownsRow base 4 1 (.slice (some ⟨w.heap.size, 0, none⟩) n n) n ((List.replicate n false).map Value.bool) := by
 refine ⟨by simp, .inr ⟨w.heap.size, n, _, by simp, hb, heap_alloc_new w _, by simp, by unfold maxLen; omega, by simp [size_madeCells], ?_⟩⟩
 rw [toList_madeCells_one]
 simp
/-- A store into a row of one's own. -/
theorem own_store {w : World} {base g n c k : Nat} {E : TypeId} {bs : List Bool} (ho : w.ownsRow base E 1 (.slice (some ⟨g, 0, none⟩) n c) n (bs.map Value.bool)) (hk : k < n) (b : Bool) :
  (∃ u, w.cell? ⟨g, k, none⟩ = some (.bool u)) ∧ w.frozen? ⟨g, k, none⟩ = false ∧ base ≤ g ∧ (w.setCell ⟨g, k, none⟩ (.bool b)).ownsRow base E 1 (.slice (some ⟨g, 0, none⟩) n c) n ((bs.set k b).map Value.bool) := by
 have hl : bs.length = n := by have := ho.1; simpa using this
 have hc : w.cell? ⟨g, k, none⟩ = some (.bool (bs[k]'(by omega))) := by rw [ho.cellAt k (by omega)]; simp [show k < bs.length by omega]
 refine ⟨⟨_, hc⟩, ho.frozenAt k, (ho.lt g rfl).1, ?_⟩
 rw [List.map_set]
 simpa using (ho.stored k (.bool b)).1
end Go.Proofs.YtenhliibmcmnbaaGreat
namespace Go.Proofs.YtenhliibmcmnbaaGreat
open Go.RowKit Go.Sort
/-- The arcs of each node: a row of rows, each in memory of its own. -/
structure Fan (w : World) (B g n cap : Nat) (vl : List Value) (L : Nat → List Int) : Prop where
 out : w.ownsRow B 50 1 (.slice (some ⟨g, 0, none⟩) n cap) n vl
 own : ∀ (j : Nat) (v : Value), vl[j]? = some v → w.ownsRow B 3 1 v (L j).length ((L j).map (Value.int .i64)) ∧ v.ownBlock ≠ some g
 dis : ∀ (i j : Nat) (v u : Value), vl[i]? = some v → vl[j]? = some u → i ≠ j → v.ownBlock = none ∨ v.ownBlock ≠ u.ownBlock
theorem own_setCell {w : World} {B : Nat} {E : TypeId} {size : Nat} {v : Value} {n : Nat} {xs : List Value} {g j : Nat} (h : w.ownsRow B E size v n xs) (hne : v.ownBlock ≠ some g) (u : Value) : (w.setCell ⟨g, j, none⟩ u).ownsRow B E size v n xs := by
 rcases h with ⟨hl, h0 | ⟨g', cap, cur, rfl, hB, hg, rest⟩⟩
 ·exact ⟨hl, .inl h0⟩
 ·refine ⟨hl, .inr ⟨g', cap, cur, rfl, hB, ?_, rest⟩⟩
  rw [Below.heap_setCell w ⟨g, j, none⟩ u g' (by simpa [Value.ownBlock] using hne)]
  exact hg
theorem Fan.lt {w : World} {B g n cap : Nat} {vl : List Value} {L : Nat → List Int} (F : Fan w B g n cap vl L) : B ≤ g ∧ g < w.heap.size := F.out.lt g rfl
theorem Fan.len {w : World} {B g n cap : Nat} {vl : List Value} {L : Nat → List Int} (F : Fan w B g n cap vl L) : vl.length = n := by simpa using F.out.1
theorem Fan.up {w w' : World} {B g n cap : Nat} {vl : List Value} {L : Nat → List Int} (F : Fan w B g n cap vl L) (hb : Below w.heap.size w w') : Fan w' B g n cap vl L :=
 ⟨own_up F.out hb, fun j v hv => ⟨own_up (F.own j v hv).1 hb, (F.own j v hv).2⟩, F.dis⟩
theorem Fan.at_ {w : World} {B g n cap : Nat} {vl : List Value} {L : Nat → List Int} (F : Fan w B g n cap vl L) {h : Nat} (hh : h < n) :
  ∃ v, vl[h]? = some v ∧ w.cell? ⟨g, h, none⟩ = some v ∧ w.ownsRow B 3 1 v (L h).length ((L h).map (Value.int .i64)) := by
 have hl : h < vl.length := by rw [F.len]; exact hh
 refine ⟨vl[h], List.getElem?_eq_getElem hl, ?_, (F.own h _ (List.getElem?_eq_getElem hl)).1⟩
 rw [F.out.cellAt h (by omega)]
 exact List.getElem?_eq_getElem hl
theorem Fan.start {w : World} {B g n : Nat} {xs : List Value} (h : w.ownsRow B 50 1 (.slice (some ⟨g, 0, none⟩) n n) n xs) (hx : xs = List.replicate n (.slice none 0 0)) : Fan w B g n n xs (fun _ => []) := by
 subst hx
 have get : ∀ (j : Nat) (v : Value), (List.replicate n (Value.slice none 0 0))[j]? = some v → v = .slice none 0 0 := fun j v hv => by
  have := List.mem_of_getElem? hv
  exact List.eq_of_mem_replicate this
 refine ⟨h, fun j v hv => ?_, fun i j v u hv _ _ => ?_⟩
 ·rw [get j v hv]; exact ⟨World.ownsRow_nil _ _ _ _, by simp [Value.ownBlock]⟩
 ·rw [get i v hv]; exact .inl rfl
theorem Fan.below {w w1 : World} {B g n cap : Nat} {vl : List Value} {L : Nat → List Int} {o : Obj} {v v' : Value} {h : Nat} (F : Fan w B g n cap vl L) (hv : vl[h]? = some v) (hB : B ≤ w.heap.size) (hg : (w.alloc o).grownBy w1 v.ownBlock) :
  Below B w (w1.setCell ⟨g, h, none⟩ v') :=
 (((Below.refl B w).alloc hB o).grown hg (by simp; omega) (fun k hk => ((F.own h v hv).1.lt k hk).1)).setCell (p := ⟨g, h, none⟩) F.lt.1 _
end Go.Proofs.YtenhliibmcmnbaaGreat
namespace Go.Proofs.YtenhliibmcmnbaaGreat
set_option linter.unusedSimpArgs false
set_option linter.unusedVariables false
open Go.RowKit Go.Sort
def lnkV (l : Lnk) : List Value := [.int .i64 l.a, .int .i64 l.b, .int .i64 l.c0, .int .i64 l.c1, .int .i64 l.cap, .int .i64 l.dl, .int .i64 l.g]
theorem lnkV_len (l : Lnk) : (lnkV l).length = 7 := rfl
theorem flat_len7 (ls : List Lnk) : (ls.flatMap lnkV).length = ls.length * 7 := by
 induction ls with
 | nil => rfl
 | cons x l ih => simp only [List.flatMap_cons, List.length_append, lnkV_len, ih, List.length_cons]; omega
theorem flat_at7 : ∀ (ls : List Lnk) (k : Nat) (l : Lnk), ls[k]? = some l → ∀ j, j < 7 → (ls.flatMap lnkV)[k * 7 + j]? = (lnkV l)[j]?
 | [], k, e, h => by simp at h
 | x :: l, 0, e, h => by
  intro j hj
  simp only [List.getElem?_cons_zero, Option.some.injEq] at h
  subst h
  simp only [List.flatMap_cons, Nat.zero_mul, Nat.zero_add]
  rw [List.getElem?_append_left (by rw [lnkV_len]; exact hj)]
 | x :: l, k + 1, e, h => by
  intro j hj
  have := flat_at7 l k e (by simpa using h) j hj
  simp only [List.flatMap_cons] at this ⊢
  rw [List.getElem?_append_right (by rw [lnkV_len]; omega)]
  rw [show (k + 1) * 7 + j - (lnkV x).length = k * 7 + j by rw [lnkV_len]; omega]
  exact this
theorem flat_one7 (ls : List Lnk) : ∀ u ∈ ls.flatMap lnkV, u.oneCell' = true := by
 intro u hu
 obtain ⟨e, _, he⟩ := List.mem_flatMap.1 hu
 simp [lnkV] at he
 rcases he with rfl | rfl | rfl | rfl | rfl | rfl | rfl <;> rfl
theorem bool_one (ov : List Bool) : ∀ u ∈ ov.map Value.bool, u.oneCell' = true := by
 intro u hu
 obtain ⟨e, _, rfl⟩ := List.mem_map.1 hu
 rfl
theorem rd_of_rdl {w : World} {A : Option Addr} {ls : List Lnk} (h : RdL w A ls) : Rd w A (ls.flatMap lnkV) := by
 rcases h with rfl | ⟨b, o, rfl, hc⟩
 ·exact .inl rfl
 ·refine .inr ⟨b, o, rfl, fun j u hu => ?_⟩
  have hj : j < ls.length * 7 := by rw [← flat_len7]; exact (List.getElem?_eq_some_iff.1 hu).1
  have hk : j / 7 < ls.length := by omega
  have hlt : j % 7 < 7 := Nat.mod_lt _ (by decide)
  have h2 := flat_at7 ls (j / 7) _ (List.getElem?_eq_getElem hk) (j % 7) hlt
  rw [show j / 7 * 7 + j % 7 = j by omega, hu] at h2
  have hq := hc (j / 7) _ (List.getElem?_eq_getElem hk)
  rw [show o + j = o + j / 7 * 7 + j % 7 by omega]
  have : j % 7 = 0 ∨ j % 7 = 1 ∨ j % 7 = 2 ∨ j % 7 = 3 ∨ j % 7 = 4 ∨ j % 7 = 5 ∨ j % 7 = 6 := by omega
  rcases this with h6 | h6 | h6 | h6 | h6 | h6 | h6 <;> rw [h6] at h2 ⊢ <;> simp [lnkV] at h2 <;> subst h2
  ·exact hq.q0
  ·exact hq.q1
  ·exact hq.q2
  ·exact hq.q3
  ·exact hq.q4
  ·exact hq.q5
  ·exact hq.q6
theorem rdl_of_rd {w : World} {A : Option Addr} {ls : List Lnk} (h : Rd w A (ls.flatMap lnkV)) : RdL w A ls := by
 rcases h with h | ⟨b, o, rfl, hc⟩
 ·refine .inl ?_
  have := flat_len7 ls
  rw [h] at this
  simp only [List.length_nil] at this
  exact List.eq_nil_of_length_eq_zero (by omega)
 ·refine .inr ⟨b, o, rfl, fun k l hl => ?_⟩
  have hf := fun j hj v hv => hc (k * 7 + j) v ((flat_at7 ls k l hl j hj).trans hv)
  have e : ∀ j, o + (k * 7 + j) = o + k * 7 + j := fun j => by omega
  simp only [e] at hf
  exact ⟨hf 0 (by decide) _ rfl, hf 1 (by decide) _ rfl, hf 2 (by decide) _ rfl, hf 3 (by decide) _ rfl, hf 4 (by decide) _ rfl, hf 5 (by decide) _ rfl, hf 6 (by decide) _ rfl⟩
theorem lt2 {a b : Nat} (h : a + 1 < b) : a + 2 ≤ b := h
theorem rd_of_ownK {w : World} {base : Nat} {E : TypeId} {size : Nat} {v : Value} {n : Nat} {xs : List Value} (h : w.ownsRow base E size v n xs) : ∃ A c, v = .slice A n c ∧ n ≤ c ∧ c ≤ maxLen ∧ Rd w A xs := by
 rcases h with ⟨hl, ⟨rfl, rfl⟩ | ⟨g, cap, cur, rfl, hb, hg, hnc, hcm, hs, ht⟩⟩
 ·exact ⟨none, 0, rfl, Nat.le_refl _, Nat.zero_le _, .inl (List.eq_nil_of_length_eq_zero (by simpa using hl))⟩
 ·refine ⟨some ⟨g, 0, none⟩, cap, rfl, hnc, hcm, .inr ⟨g, 0, rfl, fun j u hu => ?_⟩⟩
  have h0 : w.ownsRow base E size (.slice (some ⟨g, 0, none⟩) n cap) n xs := ⟨hl, .inr ⟨g, cap, cur, rfl, hb, hg, hnc, hcm, hs, ht⟩⟩
  have hj : j < n * size := by rw [← hl]; exact (List.getElem?_eq_some_iff.1 hu).1
  rw [Nat.zero_add, h0.cellAt j hj]; exact hu
/-- A copy of a topology. -/
def RetClone (t : Topo) (w : World) (e : Ending) (w' : World) : Prop :=
 ∃ B1 B2 d1 d2, e = .returned (.agg #[.int .i64 t.n, .slice B1 t.ov.length d1, .slice B2 t.ls.length d2]) ∧ TAt w' B1 B2 t ∧ Below w.heap.size w w'
set_option maxRecDepth 100000 in
set_option maxHeartbeats 1000000 in
theorem graph_Clone (t : Topo) (A1 A2 : Option Addr) (c1 c2 : Nat) (w : World) (hT : TAt w A1 A2 t) (ho : t.ov.length ≤ 1000) (hn : t.ls.length ≤ 1000) :
  Calls Tryz.prog 34 #[.agg #[.int .i64 t.n, .slice A1 t.ov.length c1, .slice A2 t.ls.length c2]] w (RetClone t w) := by
 have HB := Lib.hid (below_two w (.cells #[.int .i64 t.n, .slice A1 t.ov.length c1, .slice A2 t.ls.length c2] 25) (.cells #[.int .i64 0, .slice none 0 0, .slice none 0 0] 25))
 obtain ⟨B1, B2⟩ := two_new w #[.int .i64 t.n, .slice A1 t.ov.length c1, .slice A2 t.ls.length c2] #[.int .i64 0, .slice none 0 0, .slice none 0 0] 25 25
 have HT := Lib.hid hT
 have HX := Lib.hid B1
 have HY := Lib.hid B2
 clear B1 B2 hT
 go_enter Tryz.func34, Tryz.ntmps34
 go_wp2_with (first | (go_at_call 79; refine (clone_bool _ _ _ (t.ov.map Value.bool) _ (HT.out.ov.below HB.out) (by simp) (bool_one _) (by omega)).mono ?_; rintro e w1 ⟨v, rfl, hw, hb⟩; obtain ⟨G1, d1, rfl, h1, h2, h3⟩ := rd_of_ownK hw; have HW1 := Lib.hid hw; have HB1 := Lib.hid (below_next HB.out hb); replace HX := Lib.hid (HX.out.up hb); replace HY := Lib.hid (HY.out.up hb); clear hw h3 hb; obtain ⟨x0, x1, x2, fx⟩ := HX.out.c3; obtain ⟨y0, y1, y2, fy⟩ := HY.out.c3) | (go_at_call 80; have HY2 := Lib.hid HY.out.lt; have HB2 := Lib.hid (Bset (j := 1) (v := .slice G1 t.ov.length d1) HB1.out (Nat.le_refl _)); refine (clone_Link _ _ _ (t.ls.flatMap lnkV) _ (rd_of_rdl (HT.out.ls.below HB2.out)) (flat_len7 _) (flat_one7 _) (by omega)).mono ?_; rintro e w2 ⟨v, rfl, hw, hb⟩; obtain ⟨G2, d2, rfl, g1, g2, g3⟩ := rd_of_ownK hw; have HW2 := Lib.hid hw; replace HW1 := Lib.hid (own_up (own_setCell (j := 1) HW1.out (fun e => by have := (HW1.out.lt _ e).1; simp at this; omega) (.slice G1 t.ov.length d1)) hb); have HB3 := Lib.hid (below_next HB2.out hb); replace HX := Lib.hid ((HX.out.set 1 (.slice G1 t.ov.length d1) rfl).up hb); replace HY := Lib.hid ((HY.out.other (c := w.heap.size) (j := 1) (by omega) (.slice G1 t.ov.length d1)).up hb); clear hw g3 hb x0 x1 x2 fx y0 y1 y2 fy; obtain ⟨x0, x1, x2, fx⟩ := HX.out.c3; obtain ⟨y0, y1, y2, fy⟩ := HY.out.c3))
 have n1 : ∀ (base : Nat) (v : Value) (n : Nat) (E : TypeId) (size : Nat) (xs : List Value), w.heap.size + 2 ≤ base → w2.ownsRow base E size v n xs → v.ownBlock ≠ some w.heap.size ∧ v.ownBlock ≠ some (w.heap.size + 1) := fun base v n E size xs hb h => ⟨fun e => by have := (h.lt _ e).1; omega, fun e => by have := (h.lt _ e).1; omega⟩
 have s1 := HB1.out.size
 have m1 := n1 _ _ _ _ _ _ (by simp) HW1.out
 have m2 := n1 _ _ _ _ _ _ (by have := HX.out.lt; simp; exact lt2 HY2.out) HW2.out
 have K1 := own_setCell (j := 2) (own_setCell (j := 1) (own_setCell (j := 0) (own_setCell (j := 2) HW1.out m1.1 (.slice G2 t.ls.length d2)) m1.2 (.int .i64 t.n)) m1.2 (.slice G1 t.ov.length d1)) m1.2 (.slice G2 t.ls.length d2)
 have K2 := own_setCell (j := 2) (own_setCell (j := 1) (own_setCell (j := 0) (own_setCell (j := 2) HW2.out m2.1 (.slice G2 t.ls.length d2)) m2.2 (.int .i64 t.n)) m2.2 (.slice G1 t.ov.length d1)) m2.2 (.slice G2 t.ls.length d2)
 obtain ⟨_, _, e1, _, _, r1⟩ := rd_of_ownK K1
 obtain ⟨_, _, e2, _, _, r2⟩ := rd_of_ownK K2
 injection e1 with e1 _ _
 injection e2 with e2 _ _
 subst e1 e2
 exact bodyPost_ret (v := .agg #[.int .i64 t.n, .slice G1 t.ov.length d1, .slice G2 t.ls.length d2]) (by simp [results, Tryz.results34, go_sem, y0, y1, y2]) rfl ⟨_, _, _, _, rfl, ⟨r1, rdl_of_rd r2⟩, by (repeat' (first | (with_reducible exact HB3.out) | (with_reducible refine Bset ?_ ?_) | (with_reducible refine Bdrw ?_) | (with_reducible refine Bbox ?_ ?_) | omega | (simp; done) | (simp; omega)))⟩
end Go.Proofs.YtenhliibmcmnbaaGreat
namespace Go.Proofs.YtenhliibmcmnbaaGreat
set_option linter.unusedSimpArgs false
set_option linter.unusedVariables false
open Go.RowKit Go.Sort
/-- A slice that starts in a block from n on, if anywhere. -/
def Fresh (n : Nat) (A : Option Addr) : Prop := ∀ b o, A = some ⟨b, o, none⟩ → n ≤ b
theorem Fresh.mono {n m : Nat} {A : Option Addr} (h : Fresh n A) (hm : m ≤ n) : Fresh m A := fun b o e => Nat.le_trans hm (h b o e)
theorem Rd.set {W : World} {A : Option Addr} {xs : List Value} {n b : Nat} (h : Rd W A xs) (hf : Fresh n A) (hb : b < n) (j : Nat) (u : Value) : Rd (W.setCell ⟨b, j, none⟩ u) A xs := by
 rcases h with rfl | ⟨g, o, rfl, hc⟩
 ·exact .inl rfl
 refine .inr ⟨g, o, rfl, fun i v hv => (World.cell?_setCell_other W _ _ _ (fun e => ?_)).trans (hc i v hv)⟩
 injection e with e _ _
 have := hf _ _ rfl
 omega
theorem RdL.set {W : World} {A : Option Addr} {ls : List Lnk} {n b : Nat} (h : RdL W A ls) (hf : Fresh n A) (hb : b < n) (j : Nat) (u : Value) : RdL (W.setCell ⟨b, j, none⟩ u) A ls :=
 rdl_of_rd ((rd_of_rdl h).set hf hb j u)
theorem TAt.set {W : World} {A1 A2 : Option Addr} {t : Topo} {n b : Nat} (h : TAt W A1 A2 t) (h1 : Fresh n A1) (h2 : Fresh n A2) (hb : b < n) (j : Nat) (u : Value) : TAt (W.setCell ⟨b, j, none⟩ u) A1 A2 t := ⟨h.ov.set h1 hb j u, h.ls.set h2 hb j u⟩
/-- A copy of a topology. -/
def RetCloneF (t : Topo) (w : World) (e : Ending) (w' : World) : Prop :=
 ∃ B1 B2 d1 d2, e = .returned (.agg #[.int .i64 t.n, .slice B1 t.ov.length d1, .slice B2 t.ls.length d2]) ∧ TAt w' B1 B2 t ∧ Below w.heap.size w w' ∧ Fresh w.heap.size B1 ∧ Fresh w.heap.size B2
set_option maxRecDepth 100000 in
set_option maxHeartbeats 1000000 in
theorem graph_CloneF (t : Topo) (A1 A2 : Option Addr) (c1 c2 : Nat) (w : World) (hT : TAt w A1 A2 t) (ho : t.ov.length ≤ 1000) (hn : t.ls.length ≤ 1000) :
  Calls Tryz.prog 34 #[.agg #[.int .i64 t.n, .slice A1 t.ov.length c1, .slice A2 t.ls.length c2]] w (RetCloneF t w) := by
 have HB := Lib.hid (below_two w (.cells #[.int .i64 t.n, .slice A1 t.ov.length c1, .slice A2 t.ls.length c2] 25) (.cells #[.int .i64 0, .slice none 0 0, .slice none 0 0] 25))
 obtain ⟨B1, B2⟩ := two_new w #[.int .i64 t.n, .slice A1 t.ov.length c1, .slice A2 t.ls.length c2] #[.int .i64 0, .slice none 0 0, .slice none 0 0] 25 25
 have HT := Lib.hid hT
 have HX := Lib.hid B1
 have HY := Lib.hid B2
 clear B1 B2 hT
 go_enter Tryz.func34, Tryz.ntmps34
 go_wp2_with (first | (go_at_call 79; refine (clone_bool _ _ _ (t.ov.map Value.bool) _ (HT.out.ov.below HB.out) (by simp) (bool_one _) (by omega)).mono ?_; rintro e w1 ⟨v, rfl, hw, hb⟩; obtain ⟨G1, d1, rfl, h1, h2, h3⟩ := rd_of_ownK hw; have HW1 := Lib.hid hw; have HB1 := Lib.hid (below_next HB.out hb); replace HX := Lib.hid (HX.out.up hb); replace HY := Lib.hid (HY.out.up hb); clear hw h3 hb; obtain ⟨x0, x1, x2, fx⟩ := HX.out.c3; obtain ⟨y0, y1, y2, fy⟩ := HY.out.c3) | (go_at_call 80; have HY2 := Lib.hid HY.out.lt; have HB2 := Lib.hid (Bset (j := 1) (v := .slice G1 t.ov.length d1) HB1.out (Nat.le_refl _)); refine (clone_Link _ _ _ (t.ls.flatMap lnkV) _ (rd_of_rdl (HT.out.ls.below HB2.out)) (flat_len7 _) (flat_one7 _) (by omega)).mono ?_; rintro e w2 ⟨v, rfl, hw, hb⟩; obtain ⟨G2, d2, rfl, g1, g2, g3⟩ := rd_of_ownK hw; have HW2 := Lib.hid hw; replace HW1 := Lib.hid (own_up (own_setCell (j := 1) HW1.out (fun e => by have := (HW1.out.lt _ e).1; simp at this; omega) (.slice G1 t.ov.length d1)) hb); have HB3 := Lib.hid (below_next HB2.out hb); replace HX := Lib.hid ((HX.out.set 1 (.slice G1 t.ov.length d1) rfl).up hb); replace HY := Lib.hid ((HY.out.other (c := w.heap.size) (j := 1) (by omega) (.slice G1 t.ov.length d1)).up hb); clear hw g3 hb x0 x1 x2 fx y0 y1 y2 fy; obtain ⟨x0, x1, x2, fx⟩ := HX.out.c3; obtain ⟨y0, y1, y2, fy⟩ := HY.out.c3))
 have n1 : ∀ (base : Nat) (v : Value) (n : Nat) (E : TypeId) (size : Nat) (xs : List Value), w.heap.size + 2 ≤ base → w2.ownsRow base E size v n xs → v.ownBlock ≠ some w.heap.size ∧ v.ownBlock ≠ some (w.heap.size + 1) := fun base v n E size xs hb h => ⟨fun e => by have := (h.lt _ e).1; omega, fun e => by have := (h.lt _ e).1; omega⟩
 have s1 := HB1.out.size
 have m1 := n1 _ _ _ _ _ _ (by simp) HW1.out
 have m2 := n1 _ _ _ _ _ _ (by have := HX.out.lt; simp; exact lt2 HY2.out) HW2.out
 have K1 := own_setCell (j := 2) (own_setCell (j := 1) (own_setCell (j := 0) (own_setCell (j := 2) HW1.out m1.1 (.slice G2 t.ls.length d2)) m1.2 (.int .i64 t.n)) m1.2 (.slice G1 t.ov.length d1)) m1.2 (.slice G2 t.ls.length d2)
 have K2 := own_setCell (j := 2) (own_setCell (j := 1) (own_setCell (j := 0) (own_setCell (j := 2) HW2.out m2.1 (.slice G2 t.ls.length d2)) m2.2 (.int .i64 t.n)) m2.2 (.slice G1 t.ov.length d1)) m2.2 (.slice G2 t.ls.length d2)
 obtain ⟨_, _, e1, _, _, r1⟩ := rd_of_ownK K1
 obtain ⟨_, _, e2, _, _, r2⟩ := rd_of_ownK K2
 injection e1 with e1 _ _
 injection e2 with e2 _ _
 subst e1 e2
 exact bodyPost_ret (v := .agg #[.int .i64 t.n, .slice G1 t.ov.length d1, .slice G2 t.ls.length d2]) (by simp [results, Tryz.results34, go_sem, y0, y1, y2]) rfl ⟨_, _, _, _, rfl, ⟨r1, rdl_of_rd r2⟩, by (repeat' (first | (with_reducible exact HB3.out) | (with_reducible refine Bset ?_ ?_) | (with_reducible refine Bdrw ?_) | (with_reducible refine Bbox ?_ ?_) | omega | (simp; done) | (simp; omega))), fun b o e => by subst e; exact Nat.le_trans (by simp; omega) (Nat.le_trans (Nat.le_refl _) (K1.lt b rfl).1), fun b o e => by subst e; have := (K2.lt b rfl).1; have := HY2.out; simp at *; omega⟩
end Go.Proofs.YtenhliibmcmnbaaGreat
