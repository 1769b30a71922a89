/-
  From 'the arguments read as data' to what the walks ask: the law's case.
  waypointref56: within, component, restarted, index, State, Up (printed by gen_vs1.py).
-/
import Derived.Test.YtdnjflpmbnjgeaaGreatPkVl0
import Derived.Test.YtdnjflpmbnjgeaaGreatPkVyEz
import Derived.Test.YtdnjflpmbnjgeaaGreatPkRef
set_option linter.unusedSimpArgs false
set_option linter.unusedVariables false
namespace Go.Proofs.YtdnjflpmbnjgeaaGreat
section
open Go.ChangeShapes Go.WideShapes Go.ChangeAt Go.RowKit Go.Deep Go.Joins Go.OpenShut
theorem vflat_get {α : Type} {f : α → List Value} {n : Nat} (hpos : 0 < n) (hn : ∀ x, (f x).length = n) : ∀ (l : List α) (i : Nat) (u : Value), (l.flatMap f)[i]? = some u → ∃ z, l[i / n]? = some z ∧ (f z)[i % n]? = some u
 | [], i, u, h => by simp at h
 | x :: r, i, u, h => by
  rw [List.flatMap_cons] at h
  by_cases hi : i < n
  ·rw [List.getElem?_append_left (by rw [hn]; exact hi)] at h
   exact ⟨x, by rw [Nat.div_eq_of_lt hi]; rfl, by rw [Nat.mod_eq_of_lt hi]; exact h⟩
  ·rw [List.getElem?_append_right (by rw [hn]; omega), hn] at h
   obtain ⟨z, h1, h2⟩ := vflat_get hpos hn r (i - n) u h
   have e1 : i / n = (i - n) / n + 1 := by
    have := Nat.add_div_right (i - n) hpos
    rw [show i - n + n = i by omega] at this
    exact this
   have e2 : i % n = (i - n) % n := by
    have := Nat.add_mod_right (i - n) n
    rw [show i - n + n = i by omega] at this
    exact this
   exact ⟨z, by rw [e1]; simpa using h1, by rw [e2]; exact h2⟩
section
variable {H : Type} {enc : TypeId × Value → H} {P : Program} {w : World} {base : Nat} {spare : Nat → Bool} {held : Bool}
theorem vopen_flat {α : Type} {t e : TypeId} {size fuel : Nat} {v : Value} {x : DataW H × List MemPlace} (dec : α → List Value) (Good : α → Prop) (ht : P.underlying t = some (.slice e)) (hC : P.cellsOf e = size) (hpos : 0 < size) (hlen : ∀ z, (dec z).length = size)
    (hdec : ∀ n cs y, DataW.trod enc P w base spare held n e cs = some y → ∃ z : α, cs = dec z ∧ Good z)
    (h : DataW.trod enc P w base spare held fuel t [v] = some x) :
    ∃ (A : Option Addr) (cap : Nat) (zs : List α), v = .slice A zs.length cap ∧ zs.length ≤ maxLen ∧ (∀ z ∈ zs, Good z) ∧ zs.length ≤ cap ∧ cap ≤ maxLen ∧ Rd w A (zs.flatMap dec) := by
 obtain ⟨A, cap, zs, hcs, hm, hg, hlc, hcm, hc⟩ := open_list dec Good ht hC hpos hdec h
 simp only [List.cons.injEq, and_true] at hcs
 refine ⟨A, cap, zs, hcs, hm, hg, hlc, hcm, ?_⟩
 rcases hc with rfl | ⟨b, o, rfl, hc⟩
 ·exact .inl rfl
 ·refine .inr ⟨b, o, rfl, fun j u hu => ?_⟩
  obtain ⟨z, h1, h2⟩ := vflat_get hpos hlen zs j u hu
  have := hc (j / size) z h1 (j % size) u h2
  rw [← this]
  congr 2
  have := Nat.div_add_mod j size
  rw [Nat.mul_comm] at this
  omega
end
theorem varray9 {cs : Array Value} (h : cs.size = 9) : ∃ c0 c1 c2 c3 c4 c5 c6 c7 c8, cs = #[c0, c1, c2, c3, c4, c5, c6, c7, c8] := by
 obtain ⟨l⟩ := cs
 match l, h with
 | [a, b, c, d, e, f, g, i, j], _ => exact ⟨a, b, c, d, e, f, g, i, j, rfl⟩
section
variable {H : Type} {enc : TypeId × Value → H} {w : World} {base : Nat} {spare : Nat → Bool} {held : Bool}
theorem vcells2c : Tryz.prog.cellsOf 79 = 2 := by kernel_rfl
theorem vcells4o : Tryz.prog.cellsOf 81 = 4 := by kernel_rfl
theorem vcells6p : Tryz.prog.cellsOf 49 = 6 := by kernel_rfl
theorem vcells7f : Tryz.prog.cellsOf 28 = 7 := by kernel_rfl
theorem vcells9c : Tryz.prog.cellsOf 32 = 9 := by kernel_rfl
theorem vcells1q : Tryz.prog.cellsOf 47 = 1 := by kernel_rfl
theorem vcells2s : Tryz.prog.cellsOf 177 = 2 := by kernel_rfl
theorem vcells1o : Tryz.prog.cellsOf 26 = 1 := by kernel_rfl
theorem vcells1p : Tryz.prog.cellsOf 29 = 1 := by kernel_rfl
theorem vcells1e : Tryz.prog.cellsOf 30 = 1 := by kernel_rfl
theorem vcells1l : Tryz.prog.cellsOf 23 = 1 := by kernel_rfl
theorem vcells1b : Tryz.prog.cellsOf 22 = 1 := by kernel_rfl
def vsegV (s : Int × Int) : List Value := [.int .i64 s.1, .int .i64 s.2]
set_option maxRecDepth 100000 in
theorem trod_outage {n : Nat} {cs : List Value} {y : DataW H × List MemPlace} (h : DataW.trod enc Tryz.prog w base spare held n 81 cs = some y) : ∃ s : OutN, cs = outL s ∧ True := by
 obtain ⟨ys, m, _, _, hl, hyl, hf⟩ := DataW.trod_struct Tryz.underlying81 h
 rw [vcells4o] at hl
 match cs, hl with
 | [v0, v1, v2, v3], _ =>
  have f0 := hf 0 _ rfl
  simp [cells1] at f0
  have f1 := hf 1 _ rfl
  simp [cells1] at f1
  have f2 := hf 2 _ rfl
  simp [vcells2c] at f2
  match ys, hyl with
  | [y0, y1, y2], _ =>
   obtain ⟨a0, e0, _, _⟩ := DataW.trod_int Tryz.underlying3 f0
   obtain ⟨a1, e1, _, _⟩ := DataW.trod_int Tryz.underlying3 f1
   obtain ⟨zc, m3, _, _, _, hzc, hk⟩ := DataW.trod_struct Tryz.underlying79 f2
   have k0 := hk 0 _ rfl
   simp [cells1] at k0
   have k1 := hk 1 _ rfl
   simp [cells1] at k1
   match zc, hzc with
   | [q0, q1], _ =>
    obtain ⟨c0, r0, _, _⟩ := DataW.trod_int Tryz.underlying3 k0
    obtain ⟨c1, r1, _, _⟩ := DataW.trod_int Tryz.underlying3 k1
    simp only [List.cons.injEq, and_true] at e0 e1 r0 r1
    subst e0 e1 r0 r1
    exact ⟨⟨a0, a1, c0, c1⟩, rfl, trivial⟩
set_option maxRecDepth 100000 in
theorem trod_vseg {n : Nat} {cs : List Value} {y : DataW H × List MemPlace} (h : DataW.trod enc Tryz.prog w base spare held n 177 cs = some y) : ∃ s : Int × Int, cs = vsegV s ∧ True := by
 obtain ⟨ys, m, _, _, hl, hyl, hf⟩ := DataW.trod_struct Tryz.underlying177 h
 rw [vcells2s] at hl
 match cs, hl with
 | [v0, v1], _ =>
  have f0 := hf 0 _ rfl
  simp [cells1] at f0
  have f1 := hf 1 _ rfl
  simp [cells1] at f1
  match ys, hyl with
  | [y0, y1], _ =>
   obtain ⟨a0, e0, _, _⟩ := DataW.trod_int Tryz.underlying3 f0
   obtain ⟨a1, e1, _, _⟩ := DataW.trod_int Tryz.underlying3 f1
   simp only [List.cons.injEq, and_true] at e0 e1
   subst e0 e1
   exact ⟨⟨a0, a1⟩, rfl, trivial⟩
set_option maxRecDepth 100000 in
theorem trod_packet {n : Nat} {cs : List Value} {y : DataW H × List MemPlace} (h : DataW.trod enc Tryz.prog w base spare held n 49 cs = some y) : ∃ p : PkN, cs = pkL p ∧ inJ p.id := by
 obtain ⟨ys, m, _, _, hl, hyl, hf⟩ := DataW.trod_struct Tryz.underlying49 h
 rw [vcells6p] at hl
 match cs, hl with
 | [v0, v1, v2, v3, v4, v5], _ =>
  have f0 := hf 0 _ rfl
  simp [cells1] at f0
  have f1 := hf 1 _ rfl
  simp [cells1] at f1
  have f2 := hf 2 _ rfl
  simp [cells1] at f2
  have f3 := hf 3 _ rfl
  simp [cells1] at f3
  have f4 := hf 4 _ rfl
  simp [vcells1q] at f4
  have f5 := hf 5 _ rfl
  simp [cells1] at f5
  match ys, hyl with
  | [y0, y1, y2, y3, y4, y5], _ =>
   obtain ⟨a0, e0, _, w0⟩ := DataW.trod_int Tryz.underlying3 f0
   obtain ⟨a1, e1, _, _⟩ := DataW.trod_int Tryz.underlying3 f1
   obtain ⟨a2, e2, _, _⟩ := DataW.trod_int Tryz.underlying3 f2
   obtain ⟨a3, e3, _, _⟩ := DataW.trod_int Tryz.underlying3 f3
   obtain ⟨A, cap, ss, rfl, _, _, _, _, _⟩ := vopen_flat vsegV (fun _ => True) Tryz.underlying47 vcells2s (by omega) (fun _ => rfl) (fun n cs y hy => trod_vseg hy) f4
   obtain ⟨a5, e5, _, _⟩ := DataW.trod_int Tryz.underlying3 f5
   simp only [List.cons.injEq, and_true] at e0 e1 e2 e3 e5
   subst e0 e1 e2 e3 e5
   exact ⟨⟨a0, a1, a2, a3, A, ss.length, cap, a5⟩, rfl, wf64 w0⟩
set_option maxHeartbeats 4000000 in
set_option maxRecDepth 100000 in
/-- A case that came in. -/
theorem open_case {r : Reach} {b0 : Nat} {v : Value} {d : DataW H} {p : List MemPlace} (hv : Value.okWide Tryz.prog w r b0 32 v) (h : DataW.Trod enc Tryz.prog w base spare held 32 v d p) :
    ∃ (F : FaN) (ps : List PkN) (tr : List Ev) (A1 A2 O B C : Option Addr) (c1 c2 co cp ct : Nat), v = .agg #[.int .i64 F.t.n, .slice A1 F.t.ov.length c1, .slice A2 F.t.ls.length c2, .int .i64 F.det, .int .i64 F.ga, .int .i64 F.ho, .slice O F.out.length co, .slice B ps.length cp, .slice C tr.length ct] ∧
     TAt w A1 A2 F.t ∧ Rd w O (F.out.flatMap outL) ∧ Rd w B (ps.flatMap pkL) ∧ RdE w C tr ∧ tr.length ≤ ct ∧ ct ≤ maxLen ∧ ∀ p ∈ ps, inJ p.id := by
 obtain ⟨cs, rfl, hsz⟩ := okWide_struct Tryz.underlying32 hv
 obtain ⟨c0, c1, c2, c3, c4, c5, c6, c7, c8, rfl⟩ := varray9 (hsz.trans vcells9c)
 obtain ⟨fuel, hf0⟩ := h
 obtain ⟨ys, m, _, _, _, hyl, hf⟩ := DataW.trod_struct Tryz.underlying32 hf0
 have f0 := hf 0 _ rfl
 simp [vcells7f, Value.cells] at f0
 have f1 := hf 1 _ rfl
 simp [vcells1p, Value.cells] at f1
 have f2 := hf 2 _ rfl
 simp [vcells1e, Value.cells] at f2
 match ys, hyl with
 | [y0, y1, y2], _ =>
  obtain ⟨zs, m2, _, _, _, hzl, hg⟩ := DataW.trod_struct Tryz.underlying28 f0
  have g0 := hg 0 _ rfl
  simp [cells3] at g0
  have g1 := hg 1 _ rfl
  simp [cells1] at g1
  have g2 := hg 2 _ rfl
  simp [cells1] at g2
  have g3 := hg 3 _ rfl
  simp [cells1] at g3
  have g4 := hg 4 _ rfl
  simp [vcells1o] at g4
  match zs, hzl with
  | [z0, z1, z2, z3, z4], _ =>
   obtain ⟨ts, m3, _, _, _, htl, ht⟩ := DataW.trod_struct Tryz.underlying25 g0
   have t0 := ht 0 _ rfl
   simp [cells1] at t0
   have t1 := ht 1 _ rfl
   simp [vcells1b] at t1
   have t2 := ht 2 _ rfl
   simp [vcells1l] at t2
   match ts, htl with
   | [u0, u1, u2], _ =>
    obtain ⟨n, e0, _, _⟩ := DataW.trod_int Tryz.underlying3 t0
    obtain ⟨A1, k1, ov, rfl, _, _, hov⟩ := open_boolsF Tryz.underlying22 Tryz.underlying4 cellsB t1
    obtain ⟨A2, k2, ls, rfl, _, _, _, hls⟩ := open_linksF t2
    obtain ⟨det, e1, _, _⟩ := DataW.trod_int Tryz.underlying3 g1
    obtain ⟨ga, e2, _, _⟩ := DataW.trod_int Tryz.underlying3 g2
    obtain ⟨ho, e3, _, _⟩ := DataW.trod_int Tryz.underlying3 g3
    obtain ⟨O, k4, out, rfl, _, _, _, _, hro⟩ := vopen_flat outL (fun _ => True) Tryz.underlying26 vcells4o (by omega) (fun _ => rfl) (fun n cs y hy => trod_outage hy) g4
    obtain ⟨B, k5, ps, rfl, _, gp, _, _, hrp⟩ := vopen_flat pkL (fun p => inJ p.id) Tryz.underlying29 vcells6p (by omega) (fun _ => rfl) (fun n cs y hy => trod_packet hy) f1
    obtain ⟨C, ct, tr, hcs, _, _, hlc, hcm, hc⟩ := open_list (α := Ev) evV EvIn Tryz.underlying30 cellsEv (by omega) (fun n cs y hy => trod_ev hy) f2
    simp only [List.cons.injEq, and_true] at e0 e1 e2 e3 hcs
    subst e0 e1 e2 e3 hcs
    refine ⟨⟨⟨n, ov, ls⟩, det, ga, ho, out⟩, ps, tr, A1, A2, O, B, C, k1, k2, k4, k5, ct, rfl, ⟨hov, hls⟩, hro, hrp, ?_, hlc, hcm, gp⟩
    rcases hc with rfl | ⟨b, o, rfl, hc⟩
    ·exact .inl rfl
    ·exact .inr ⟨b, o, rfl, fun k e he => evO_of fun j u hj => hc k e he j u hj⟩
end
end
section
open Go.RowKit Go.Sort
section
variable {w : World} {A1 A2 A B : Option Addr}
theorem wQ (n a b : Int) : Calls Tryz.prog 74 #[.int .i64 n, .int .i64 a, .int .i64 b] w fun e w' => e = .returned (.bool (inR n a b)) ∧ Below w.heap.size w w' := by
 have HB := hU (Below.refl w.heap.size w)
 obtain ⟨R, hR⟩ : ∃ R, R = inR n a b := ⟨_, rfl⟩
 rw [← hR]
 by_cases h1 : a ≤ n
 ·by_cases h2 : n ≤ b
  ·obtain rfl : R = true := by rw [hR]; exact inR_true.2 ⟨h1, h2⟩
   clear hR
   go_enter Tryz.func74, Tryz.ntmps74
   go_wp2_with fail
   go_ret
   exact ⟨rfl, HB.out⟩
  ·obtain rfl : R = false := by rw [hR]; exact inR_false.2 (by omega)
   clear hR
   go_enter Tryz.func74, Tryz.ntmps74
   go_wp2_with fail
   go_ret
   exact ⟨rfl, HB.out⟩
 ·obtain rfl : R = false := by rw [hR]; exact inR_false.2 (by omega)
  clear hR
  go_enter Tryz.func74, Tryz.ntmps74
  go_wp2_with fail
  go_ret
  exact ⟨rfl, HB.out⟩
set_option maxRecDepth 100000 in
theorem ref56_component (x k n a p r : Int) : Calls Tryz.prog 44 #[.agg #[.int .i64 x, .int .i64 k, .int .i64 n, .int .i64 a, .int .i64 p, .int .i64 r]] w fun e w' => e = .returned (.agg #[.int .i64 a, .int .i64 r]) ∧ Below w.heap.size w w' := by
 have HB := hU (Below.refl w.heap.size w)
 go_enter Tryz.func44, Tryz.ntmps44
 go_wp2_with fail
 exact bodyPost_ret (v := .agg #[.int .i64 a, .int .i64 r]) (by simp [results, Tryz.results44, go_sem]) rfl ⟨rfl, by (repeat' (first | (with_reducible exact HB.out) | (with_reducible refine Bset ?_ ?_) | (with_reducible refine Bdrw ?_) | (with_reducible refine Bbox ?_ ?_) | omega | (simp; done) | (simp; omega)))⟩
set_option maxRecDepth 100000 in
theorem ref56_restarted (x k n a p r m : Int) : Calls Tryz.prog 108 #[.agg #[.int .i64 x, .int .i64 k, .int .i64 n, .int .i64 a, .int .i64 p, .int .i64 r], .int .i64 m] w fun e w' => e = .returned (.bool (rstB ⟨x, k, n, a, p, r⟩ m)) ∧ Below w.heap.size w w' := by
 have HB := hU (cQ w (.cells #[.int .i64 x, .int .i64 k, .int .i64 n, .int .i64 a, .int .i64 p, .int .i64 r] 43))
 obtain ⟨s0, s1, s2, s3, s4, s5, _⟩ := (Bl.new w #[.int .i64 x, .int .i64 k, .int .i64 n, .int .i64 a, .int .i64 p, .int .i64 r] 43).c6
 obtain ⟨R, hR⟩ : ∃ R, R = rstB ⟨x, k, n, a, p, r⟩ m := ⟨_, rfl⟩
 rw [← hR]
 by_cases g : k = 6
 ·subst g
  have HRV : Hid (R = ((a == 2) && (r == m))) := hU (by rw [hR]; rfl)
  have hcm := fun W => cm_eql a r 2 m W
  clear hR
  go_enter Tryz.func108, Tryz.ntmps108
  go_wp2_with (go_at_call 44; (with_reducible refine (ref56_component x 6 n a p r).mono ?_); rintro e w2 ⟨rfl, hb⟩; replace HB := hU (bQ HB.out hb); clear hb s0 s1 s2 s3 s4 s5)
  go_ret
  exact ⟨by rw [HRV.out]; rfl, HB.out⟩
 ·have g2 : (k == 6) = false := beq_eq_false_iff_ne.2 g
  have HRV : Hid (R = false) := hU (by rw [hR]; simp [rstB, g])
  clear hR g
  go_enter Tryz.func108, Tryz.ntmps108
  go_wp2_with fail
  go_ret
  exact ⟨by rw [HRV.out]; rfl, HB.out⟩
/-- The index of the packet with an ID, or -1. -/
def ixOf (ps : List PkN) (id : Int) : Int := match ps.findIdx? (fun p => p.id == id) with | some i => (i : Int) | none => -1
theorem ixOf_none {ps : List PkN} {id : Int} (h : ∀ p ∈ ps, p.id ≠ id) : ixOf ps id = -1 := by
 have : ps.findIdx? (fun p => p.id == id) = none := by
  rw [List.findIdx?_eq_none_iff]
  intro p hp
  exact beq_eq_false_iff_ne.2 (h p hp)
 simp [ixOf, this]
theorem ixOf_some {ps : List PkN} {id : Int} {k : Nat} {p : PkN} (h : ∀ q ∈ ps.take k, q.id ≠ id) (hk : ps[k]? = some p) (hp : p.id = id) : ixOf ps id = (k : Int) := by
 have : ps.findIdx? (fun p => p.id == id) = some k := by
  rw [List.findIdx?_eq_some_iff_getElem]
  obtain ⟨h1, h2⟩ := List.getElem?_eq_some_iff.1 hk
  refine ⟨h1, by rw [h2]; exact beq_iff_eq.2 hp, fun j hj => ?_⟩
  rw [Bool.not_eq_true]
  refine beq_eq_false_iff_ne.2 (h _ ?_)
  rw [List.mem_take_iff_getElem]
  exact ⟨j, by omega, rfl⟩
 simp [ixOf, this]
set_option maxRecDepth 100000 in
set_option maxHeartbeats 2000000 in
theorem ref56_index (ps : List PkN) (cp : Nat) (id : Int) (hP : Rd w B (ps.flatMap pkL)) (hl : ps.length ≤ 100000) :
    Calls Tryz.prog 13 #[.slice B ps.length cp, .int .i64 id] w fun e w' => e = .returned (.int .i64 (ixOf ps id)) ∧ Below w.heap.size w w' := by
 obtain ⟨R, hR⟩ : ∃ R, R = ixOf ps id := ⟨_, rfl⟩
 rw [← hR]
 have HR := hU hR
 have HP := hU hP
 clear hR hP
 go_enter Tryz.func13, Tryz.ntmps13
 go_wp2_with fail
 go_loopw [5] (fun i wr => ∃ q : Nat, q ≤ ps.length ∧ i = .int .i64 q ∧ Hid (∀ p ∈ ps.take q, p.id ≠ id) ∧ Hid (Below w.heap.size w wr)) (fun i _ => ps.length - (intOf i).toNat)
 case atStart => exact ⟨0, Nat.zero_le _, rfl, hU (by simp), hU (Below.refl _ _)⟩
 case round =>
  obtain ⟨q, hq, rfl, HK, HB⟩ := hrel
  by_cases hlt : q < ps.length
  ·have hlt' : (q : Int) < (ps.length : Int) := by omega
   obtain ⟨pp, hpp⟩ : ∃ pp, ps[q]? = some pp := ⟨_, List.getElem?_eq_getElem hlt⟩
   obtain ⟨bz, oz, hAz, hcz⟩ := row_at (s := 6) (fun _ => rfl) (by omega) (HP.out.below HB.out) hpp
   have z0 := hcz 0 (.int .i64 pp.id) rfl
   rw [Nat.add_zero] at z0
   have HTK : Hid (ps.take (q + 1) = ps.take q ++ [pp]) := hU (by rw [List.take_add_one, hpp]; rfl)
   have HPP := hU hpp
   clear hcz hpp
   subst hAz
   by_cases he : pp.id = id
   ·have heb : (pp.id == id) = true := beq_iff_eq.2 he
    have HRV : Hid (R = (q : Int)) := hU (by rw [HR.out]; exact ixOf_some HK.out HPP.out he)
    clear he
    go_wp2_with fail
    go_ret
    exact ⟨by rw [HRV.out]; rfl, HB.out⟩
   ·have heb : (pp.id == id) = false := beq_eq_false_iff_ne.2 he
    have HE := hU he
    clear he
    go_wp2_with fail
    go_roundw
    case rel => exact ⟨q + 1, by omega, by go_num, hU (by rw [HTK.out]; intro p hp; rcases List.mem_append.1 hp with hp | hp; exact HK.out p hp; rw [List.mem_singleton.1 hp]; exact HE.out), HB⟩
    case measure => simp [intOf]; omega
  ·obtain rfl : q = ps.length := by omega
   have HRV : Hid (R = -1) := hU (by rw [HR.out]; exact ixOf_none (by have := HK.out; rwa [List.take_length] at this))
   go_wp2_with fail
   go_ret
   exact ⟨by rw [HRV.out]; rfl, HB.out⟩
set_option maxRecDepth 100000 in
set_option maxHeartbeats 4000000 in
theorem ref56_State (tr : List Ev) (ct : Nat) (i : Nat) (m : Int) (hE : RdE w A tr) (hi : i ≤ tr.length) (hl : tr.length ≤ 100000) :
    Calls Tryz.prog 79 #[.slice A tr.length ct, .int .i64 i, .int .i64 m] w fun e w' => ∃ x : Int, e = .returned (.tuple #[.int .i64 (stR (tr.take i) m), .int .i64 x]) ∧ Below w.heap.size w w' := by
 have HE := hU hE
 clear hE
 go_enter Tryz.func79, Tryz.ntmps79
 go_wp2_with fail
 go_loopw [8, 9, 10] (fun s y j wr => ∃ (q : Nat) (x : Int), q ≤ i ∧ j = .int .i64 q ∧ s = .int .i64 (stR (tr.take q) m) ∧ y = .int .i64 x ∧ Hid (Below w.heap.size w wr)) (fun _ _ j _ => i - (intOf j).toNat)
 case atStart => exact ⟨0, -1, Nat.zero_le _, rfl, rfl, rfl, hU (Below.refl _ _)⟩
 case round =>
  obtain ⟨q, y, hq, rfl, rfl, rfl, HB⟩ := hrel
  by_cases hlt : q < i
  ·have hlt' : (q : Int) < (i : Int) := by omega
   have hlt2 : (q : Int) < (tr.length : Int) := by omega
   obtain ⟨bz, oz, ev, hAz, hev, hcz⟩ := (HE.out.below HB.out).at_ (show q < tr.length by omega)
   have HS : Hid (stR (tr.take (q + 1)) m = if ev.k = 8 ∧ ev.n = m then ev.r else if rstB ev m = true then 3 else stR (tr.take q) m) := hU (by rw [List.take_add_one, hev]; exact stR_snoc _ _ _)
   obtain ⟨x, k, n, a, p, r⟩ := ev
   obtain ⟨z0, z1, z2, z3, z4, z5⟩ := hcz
   simp only at z0 z1 z2 z3 z4 z5
   clear hev
   subst hAz
   obtain ⟨S, hS⟩ : ∃ S, S = stR (tr.take q) m := ⟨_, rfl⟩
   rw [← hS] at HS ⊢
   clear hS
   obtain ⟨v, hv⟩ : ∃ v, v = rstB ⟨x, k, n, a, p, r⟩ m := ⟨_, rfl⟩
   have HRS : Hid (∀ W : World, Calls Tryz.prog 108 #[.agg #[.int .i64 x, .int .i64 k, .int .i64 n, .int .i64 a, .int .i64 p, .int .i64 r], .int .i64 m] W fun e w' => e = .returned (.bool v) ∧ Below W.heap.size W w') := hU (fun W => by rw [hv]; exact ref56_restarted x k n a p r m)
   rw [← hv] at HS
   clear hv
   cases v with
   | true =>
    by_cases g8 : k = 8
    ·subst g8
     by_cases gn : n = m
     ·have gnb : (n == m) = true := beq_iff_eq.2 gn
      have HSV : Hid (stR (tr.take (q + 1)) m = r) := hU (by rw [HS.out]; simp [gn])
      clear HS gn
      go_wp2_with (go_at_call 108; (with_reducible refine (HRS.out _).mono ?_); rintro e w2 ⟨rfl, hb⟩; replace HB := hU (bQ HB.out hb); have z0 := aQ hb z0; have z1 := aQ hb z1; have z2 := aQ hb z2; have z3 := aQ hb z3; have z5 := aQ hb z5; clear hb)
      go_roundw
      case rel => exact ⟨q + 1, (q : Int), by omega, by go_num, by rw [HSV.out], rfl, HB⟩
      case measure => simp [intOf]; omega
     ·have gnb : (n == m) = false := beq_eq_false_iff_ne.2 gn
      have HSV : Hid (stR (tr.take (q + 1)) m = 3) := hU (by rw [HS.out]; simp [gn])
      clear HS gn
      go_wp2_with (go_at_call 108; (with_reducible refine (HRS.out _).mono ?_); rintro e w2 ⟨rfl, hb⟩; replace HB := hU (bQ HB.out hb); have z0 := aQ hb z0; have z1 := aQ hb z1; have z2 := aQ hb z2; have z3 := aQ hb z3; have z5 := aQ hb z5; clear hb)
      go_roundw
      case rel => exact ⟨q + 1, -1, by omega, by go_num, by rw [HSV.out], rfl, HB⟩
      case measure => simp [intOf]; omega
    ·have g8b : (k == 8) = false := beq_eq_false_iff_ne.2 g8
     have HSV : Hid (stR (tr.take (q + 1)) m = 3) := hU (by rw [HS.out]; simp [g8])
     clear HS g8
     go_wp2_with (go_at_call 108; (with_reducible refine (HRS.out _).mono ?_); rintro e w2 ⟨rfl, hb⟩; replace HB := hU (bQ HB.out hb); have z0 := aQ hb z0; have z1 := aQ hb z1; have z2 := aQ hb z2; have z3 := aQ hb z3; have z5 := aQ hb z5; clear hb)
     go_roundw
     case rel => exact ⟨q + 1, -1, by omega, by go_num, by rw [HSV.out], rfl, HB⟩
     case measure => simp [intOf]; omega
   | false =>
    by_cases g8 : k = 8
    ·subst g8
     by_cases gn : n = m
     ·have gnb : (n == m) = true := beq_iff_eq.2 gn
      have HSV : Hid (stR (tr.take (q + 1)) m = r) := hU (by rw [HS.out]; simp [gn])
      clear HS gn
      go_wp2_with (go_at_call 108; (with_reducible refine (HRS.out _).mono ?_); rintro e w2 ⟨rfl, hb⟩; replace HB := hU (bQ HB.out hb); have z0 := aQ hb z0; have z1 := aQ hb z1; have z2 := aQ hb z2; have z3 := aQ hb z3; have z5 := aQ hb z5; clear hb)
      go_roundw
      case rel => exact ⟨q + 1, (q : Int), by omega, by go_num, by rw [HSV.out], rfl, HB⟩
      case measure => simp [intOf]; omega
     ·have gnb : (n == m) = false := beq_eq_false_iff_ne.2 gn
      have HSV : Hid (stR (tr.take (q + 1)) m = S) := hU (by rw [HS.out]; simp [gn])
      clear HS gn
      go_wp2_with (go_at_call 108; (with_reducible refine (HRS.out _).mono ?_); rintro e w2 ⟨rfl, hb⟩; replace HB := hU (bQ HB.out hb); have z0 := aQ hb z0; have z1 := aQ hb z1; have z2 := aQ hb z2; have z3 := aQ hb z3; have z5 := aQ hb z5; clear hb)
      go_roundw
      case rel => exact ⟨q + 1, y, by omega, by go_num, by rw [HSV.out], rfl, HB⟩
      case measure => simp [intOf]; omega
    ·have g8b : (k == 8) = false := beq_eq_false_iff_ne.2 g8
     have HSV : Hid (stR (tr.take (q + 1)) m = S) := hU (by rw [HS.out]; simp [g8])
     clear HS g8
     go_wp2_with (go_at_call 108; (with_reducible refine (HRS.out _).mono ?_); rintro e w2 ⟨rfl, hb⟩; replace HB := hU (bQ HB.out hb); have z0 := aQ hb z0; have z1 := aQ hb z1; have z2 := aQ hb z2; have z3 := aQ hb z3; have z5 := aQ hb z5; clear hb)
     go_roundw
     case rel => exact ⟨q + 1, y, by omega, by go_num, by rw [HSV.out], rfl, HB⟩
     case measure => simp [intOf]; omega
  ·obtain rfl : q = i := by omega
   go_wp2_with fail
   go_ret2
   exact ⟨y, rfl, HB.out⟩
set_option maxRecDepth 100000 in
set_option maxHeartbeats 4000000 in
theorem ref56_Up (t : Topo) (c1 c2 : Nat) (tr : List Ev) (ct : Nat) (i : Nat) (b : Int) (hv : valid t = true) (hT : TAt w A1 A2 t) (hb0 : 0 ≤ b) (hb1 : b < 2 * (t.ls.length : Int)) (hE : RdE w A tr) (hi : i ≤ tr.length) (hl : tr.length ≤ 100000) :
    Calls Tryz.prog 80 #[.agg #[.int .i64 t.n, .slice A1 t.ov.length c1, .slice A2 t.ls.length c2], .slice A tr.length ct, .int .i64 i, .int .i64 b] w fun e w' => e = .returned (.bool (upR t (tr.take i) b)) ∧ Below w.heap.size w w' := by
 have HL := hU (zQ hv)
 have HE := hU hE
 have HX := hU (Bl.new w #[.int .i64 t.n, .slice A1 t.ov.length c1, .slice A2 t.ls.length c2] 25)
 have HB := hU (cQ w (.cells #[.int .i64 t.n, .slice A1 t.ov.length c1, .slice A2 t.ls.length c2] 25))
 obtain ⟨b0, b1, b2, _⟩ := HX.out.c3
 have HTL := hU (ref09_TailT t A1 A2 c1 c2 b (w.alloc (.cells #[.int .i64 t.n, .slice A1 t.ov.length c1, .slice A2 t.ls.length c2] 25)) (hT.below HB.out) (by have := HL.out; omega) hv (isN_true.2 ⟨hb0, hb1⟩))
 obtain ⟨m, hm⟩ : ∃ m, m = tail t b := ⟨_, rfl⟩
 have HM := hU hm
 rw [← hm] at HTL
 clear hE hT hv hm
 go_enter Tryz.func80, Tryz.ntmps80
 go_wp2_with (go_at_call 76; (with_reducible refine HTL.out.mono ?_); rintro e w2 ⟨rfl, hb⟩; replace HB := hU (bQ HB.out hb); clear hb b0 b1 b2 HX HTL)
 go_loopw [9, 11] (fun s j wr => ∃ q : Nat, q ≤ i ∧ j = .int .i64 q ∧ s = .bool (upR t (tr.take q) b) ∧ Hid (Below w.heap.size w wr)) (fun _ j _ => i - (intOf j).toNat)
 case atStart => exact ⟨0, Nat.zero_le _, rfl, rfl, HB⟩
 case round =>
  clear HB
  obtain ⟨q, hq, rfl, rfl, HB⟩ := hrel
  by_cases hlt : q < i
  ·have hlt' : (q : Int) < (i : Int) := by omega
   have hlt2 : (q : Int) < (tr.length : Int) := by omega
   obtain ⟨bz, oz, ev, hAz, hev, hcz⟩ := (HE.out.below HB.out).at_ (show q < tr.length by omega)
   have HS : Hid (upR t (tr.take (q + 1)) b = if ev.k = 7 ∧ ev.n = m ∧ ev.a = b then ev.r == 2 else if rstB ev m = true then false else upR t (tr.take q) b) := hU (by rw [List.take_add_one, hev, HM.out]; exact upR_snoc _ _ _ _)
   obtain ⟨x, k, n, a, p, r⟩ := ev
   obtain ⟨z0, z1, z2, z3, z4, z5⟩ := hcz
   simp only at z0 z1 z2 z3 z4 z5
   clear hev
   subst hAz
   obtain ⟨S, hS⟩ : ∃ S, S = upR t (tr.take q) b := ⟨_, rfl⟩
   rw [← hS] at HS ⊢
   clear hS
   obtain ⟨v, hv⟩ : ∃ v, v = rstB ⟨x, k, n, a, p, r⟩ m := ⟨_, rfl⟩
   have HRS : Hid (∀ W : World, Calls Tryz.prog 108 #[.agg #[.int .i64 x, .int .i64 k, .int .i64 n, .int .i64 a, .int .i64 p, .int .i64 r], .int .i64 m] W fun e w' => e = .returned (.bool v) ∧ Below W.heap.size W w') := hU (fun W => by rw [hv]; exact ref56_restarted x k n a p r m)
   rw [← hv] at HS
   clear hv
   cases v with
   | true =>
    by_cases g7 : k = 7
    ·subst g7
     by_cases gn : n = m
     ·have gnb : (n == m) = true := beq_iff_eq.2 gn
      by_cases ga : a = b
      ·have gab : (a == b) = true := beq_iff_eq.2 ga
       have HSV : Hid (upR t (tr.take (q + 1)) b = (r == 2)) := hU (by rw [HS.out]; simp [gn, ga])
       clear HS gn ga
       go_wp2_with (go_at_call 108; (with_reducible refine (HRS.out _).mono ?_); rintro e w2 ⟨rfl, hb⟩; replace HB := hU (bQ HB.out hb); have z0 := aQ hb z0; have z1 := aQ hb z1; have z2 := aQ hb z2; have z3 := aQ hb z3; have z5 := aQ hb z5; clear hb)
       go_roundw
       case rel => exact ⟨q + 1, by omega, by go_num, by rw [HSV.out], HB⟩
       case measure => simp [intOf]; omega
      ·have gab : (a == b) = false := beq_eq_false_iff_ne.2 ga
       have HSV : Hid (upR t (tr.take (q + 1)) b = false) := hU (by rw [HS.out]; simp [ga, gn])
       clear HS ga gn
       go_wp2_with (go_at_call 108; (with_reducible refine (HRS.out _).mono ?_); rintro e w2 ⟨rfl, hb⟩; replace HB := hU (bQ HB.out hb); have z0 := aQ hb z0; have z1 := aQ hb z1; have z2 := aQ hb z2; have z3 := aQ hb z3; have z5 := aQ hb z5; clear hb)
       go_roundw
       case rel => exact ⟨q + 1, by omega, by go_num, by rw [HSV.out], HB⟩
       case measure => simp [intOf]; omega
     ·have gnb : (n == m) = false := beq_eq_false_iff_ne.2 gn
      have HSV : Hid (upR t (tr.take (q + 1)) b = false) := hU (by rw [HS.out]; simp [gn])
      clear HS gn
      go_wp2_with (go_at_call 108; (with_reducible refine (HRS.out _).mono ?_); rintro e w2 ⟨rfl, hb⟩; replace HB := hU (bQ HB.out hb); have z0 := aQ hb z0; have z1 := aQ hb z1; have z2 := aQ hb z2; have z3 := aQ hb z3; have z5 := aQ hb z5; clear hb)
      go_roundw
      case rel => exact ⟨q + 1, by omega, by go_num, by rw [HSV.out], HB⟩
      case measure => simp [intOf]; omega
    ·have g7b : (k == 7) = false := beq_eq_false_iff_ne.2 g7
     have HSV : Hid (upR t (tr.take (q + 1)) b = false) := hU (by rw [HS.out]; simp [g7])
     clear HS g7
     go_wp2_with (go_at_call 108; (with_reducible refine (HRS.out _).mono ?_); rintro e w2 ⟨rfl, hb⟩; replace HB := hU (bQ HB.out hb); have z0 := aQ hb z0; have z1 := aQ hb z1; have z2 := aQ hb z2; have z3 := aQ hb z3; have z5 := aQ hb z5; clear hb)
     go_roundw
     case rel => exact ⟨q + 1, by omega, by go_num, by rw [HSV.out], HB⟩
     case measure => simp [intOf]; omega
   | false =>
    by_cases g7 : k = 7
    ·subst g7
     by_cases gn : n = m
     ·have gnb : (n == m) = true := beq_iff_eq.2 gn
      by_cases ga : a = b
      ·have gab : (a == b) = true := beq_iff_eq.2 ga
       have HSV : Hid (upR t (tr.take (q + 1)) b = (r == 2)) := hU (by rw [HS.out]; simp [gn, ga])
       clear HS gn ga
       go_wp2_with (go_at_call 108; (with_reducible refine (HRS.out _).mono ?_); rintro e w2 ⟨rfl, hb⟩; replace HB := hU (bQ HB.out hb); have z0 := aQ hb z0; have z1 := aQ hb z1; have z2 := aQ hb z2; have z3 := aQ hb z3; have z5 := aQ hb z5; clear hb)
       go_roundw
       case rel => exact ⟨q + 1, by omega, by go_num, by rw [HSV.out], HB⟩
       case measure => simp [intOf]; omega
      ·have gab : (a == b) = false := beq_eq_false_iff_ne.2 ga
       have HSV : Hid (upR t (tr.take (q + 1)) b = S) := hU (by rw [HS.out]; simp [ga, gn])
       clear HS ga gn
       go_wp2_with (go_at_call 108; (with_reducible refine (HRS.out _).mono ?_); rintro e w2 ⟨rfl, hb⟩; replace HB := hU (bQ HB.out hb); have z0 := aQ hb z0; have z1 := aQ hb z1; have z2 := aQ hb z2; have z3 := aQ hb z3; have z5 := aQ hb z5; clear hb)
       go_roundw
       case rel => exact ⟨q + 1, by omega, by go_num, by rw [HSV.out], HB⟩
       case measure => simp [intOf]; omega
     ·have gnb : (n == m) = false := beq_eq_false_iff_ne.2 gn
      have HSV : Hid (upR t (tr.take (q + 1)) b = S) := hU (by rw [HS.out]; simp [gn])
      clear HS gn
      go_wp2_with (go_at_call 108; (with_reducible refine (HRS.out _).mono ?_); rintro e w2 ⟨rfl, hb⟩; replace HB := hU (bQ HB.out hb); have z0 := aQ hb z0; have z1 := aQ hb z1; have z2 := aQ hb z2; have z3 := aQ hb z3; have z5 := aQ hb z5; clear hb)
      go_roundw
      case rel => exact ⟨q + 1, by omega, by go_num, by rw [HSV.out], HB⟩
      case measure => simp [intOf]; omega
    ·have g7b : (k == 7) = false := beq_eq_false_iff_ne.2 g7
     have HSV : Hid (upR t (tr.take (q + 1)) b = S) := hU (by rw [HS.out]; simp [g7])
     clear HS g7
     go_wp2_with (go_at_call 108; (with_reducible refine (HRS.out _).mono ?_); rintro e w2 ⟨rfl, hb⟩; replace HB := hU (bQ HB.out hb); have z0 := aQ hb z0; have z1 := aQ hb z1; have z2 := aQ hb z2; have z3 := aQ hb z3; have z5 := aQ hb z5; clear hb)
     go_roundw
     case rel => exact ⟨q + 1, by omega, by go_num, by rw [HSV.out], HB⟩
     case measure => simp [intOf]; omega
  ·obtain rfl : q = i := by omega
   go_wp2_with fail
   go_ret
   exact ⟨rfl, HB.out⟩
end
end
end Go.Proofs.YtdnjflpmbnjgeaaGreat
