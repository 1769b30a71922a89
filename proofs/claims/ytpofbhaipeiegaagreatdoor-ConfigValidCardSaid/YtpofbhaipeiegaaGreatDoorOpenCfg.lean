/-
  From 'the arguments read as data' to what the walks ask: a configuration.
-/
import Derived.Test.YtpofbhaipeiegaaGreatDoorOpen
import Derived.Test.YtpofbhaipeiegaaGreatDoorCfgVr
namespace Go.Proofs.YtpofbhaipeiegaaGreatDoor
open Go.ChangeShapes Go.WideShapes Go.ChangeAt Go.RowKit Go.Deep Go.Joins Go.OpenShut
set_option linter.unusedSimpArgs false
set_option linter.unusedVariables false

theorem flat_get {α : Type} {f : α → List Value} {n : Nat} (hpos : 0 < n) (hn : ∀ x, (f x).length = n) : ∀ (l : List α) (i : Nat) (u : Value), (l.flatMap f)[i]? = some u → ∃ z, l[i / n]? = some z ∧ (f z)[i % n]? = some u
  | [], i, u, h => by simp at h
  | x :: r, i, u, h => by
    rw [List.flatMap_cons] at h
    by_cases hi : i < n
    · rw [List.getElem?_append_left (by rw [hn]; exact hi)] at h
      exact ⟨x, by rw [Nat.div_eq_of_lt hi]; rfl, by rw [Nat.mod_eq_of_lt hi]; exact h⟩
    · rw [List.getElem?_append_right (by rw [hn]; omega), hn] at h
      obtain ⟨z, h1, h2⟩ := flat_get hpos hn r (i - n) u h
      have e1 : i / n = (i - n) / n + 1 := by
        have := Nat.add_div_right (i - n) hpos
        rw [show i - n + n = i by omega] at this
        exact this
      have e2 : i % n = (i - n) % n := by
        have := Nat.add_mod_right (i - n) n
        rw [show i - n + n = i by omega] at this
        exact this
      exact ⟨z, by rw [e1]; simpa using h1, by rw [e2]; exact h2⟩

section
variable {H : Type} {enc : TypeId × Value → H} {P : Program} {w : World} {base : Nat} {spare : Nat → Bool} {held : Bool}
theorem open_flat {α : Type} {t e : TypeId} {size fuel : Nat} {v : Value} {x : DataW H × List MemPlace} (dec : α → List Value) (Good : α → Prop) (ht : P.underlying t = some (.slice e)) (hC : P.cellsOf e = size) (hpos : 0 < size) (hlen : ∀ z, (dec z).length = size)
    (hdec : ∀ n cs y, DataW.trod enc P w base spare held n e cs = some y → ∃ z : α, cs = dec z ∧ Good z)
    (h : DataW.trod enc P w base spare held fuel t [v] = some x) :
    ∃ (A : Option Addr) (cap : Nat) (zs : List α), v = .slice A zs.length cap ∧ zs.length ≤ maxLen ∧ (∀ z ∈ zs, Good z) ∧ zs.length ≤ cap ∧ cap ≤ maxLen ∧ Rd w A (zs.flatMap dec) := by
  obtain ⟨A, cap, zs, hcs, hm, hg, hlc, hcm, hc⟩ := open_list dec Good ht hC hpos hdec h
  simp only [List.cons.injEq, and_true] at hcs
  refine ⟨A, cap, zs, hcs, hm, hg, hlc, hcm, ?_⟩
  rcases hc with rfl | ⟨b, o, rfl, hc⟩
  · exact .inl rfl
  · refine .inr ⟨b, o, rfl, fun j u hu => ?_⟩
    obtain ⟨z, h1, h2⟩ := flat_get hpos hlen zs j u hu
    have := hc (j / size) z h1 (j % size) u h2
    rw [← this]
    congr 2
    have := Nat.div_add_mod j size
    rw [Nat.mul_comm] at this
    omega
end

section
variable {H : Type} {enc : TypeId × Value → H} {w : World} {base : Nat} {spare : Nat → Bool} {held : Bool}
theorem cells1s : Tryz.prog.cellsOf 9 = 1 := by kernel_rfl
theorem cells1g : Tryz.prog.cellsOf 27 = 1 := by kernel_rfl
theorem cells1l : Tryz.prog.cellsOf 29 = 1 := by kernel_rfl
theorem cells1b : Tryz.prog.cellsOf 28 = 1 := by kernel_rfl
theorem cells1r : Tryz.prog.cellsOf 32 = 1 := by kernel_rfl
theorem cells1p : Tryz.prog.cellsOf 33 = 1 := by kernel_rfl
theorem cells1q : Tryz.prog.cellsOf 93 = 1 := by kernel_rfl
theorem cells1d : Tryz.prog.cellsOf 34 = 1 := by kernel_rfl
theorem cells1u : Tryz.prog.cellsOf 88 = 1 := by kernel_rfl
theorem cells5 : Tryz.prog.cellsOf 35 = 5 := by kernel_rfl
theorem cells2x : Tryz.prog.cellsOf 90 = 2 := by kernel_rfl
theorem cells3r : Tryz.prog.cellsOf 92 = 3 := by kernel_rfl
theorem cells3p : Tryz.prog.cellsOf 95 = 3 := by kernel_rfl
theorem cells2s : Tryz.prog.cellsOf 97 = 2 := by kernel_rfl
theorem cells4d : Tryz.prog.cellsOf 99 = 4 := by kernel_rfl
theorem cellsCf : Tryz.prog.cellsOf 56 = 13 := by kernel_rfl
set_option maxRecDepth 100000 in
theorem trod_seg2 {n : Nat} {cs : List Value} {y : DataW H × List MemPlace} (h : DataW.trod enc Tryz.prog w base spare held n 97 cs = some y) : ∃ s : Int × Int, cs = sgV s ∧ True := by
  obtain ⟨ys, m, _, _, hl, hyl, hf⟩ := DataW.trod_struct Tryz.underlying97 h
  rw [cells2s] at hl
  match cs, hl with
  | [v0, v1], _ =>
    have f0 := hf 0 _ rfl
    simp [cells1] at f0
    have f1 := hf 1 _ rfl
    simp [cells1] at f1
    match ys, hyl with
    | [y0, y1], _ =>
      obtain ⟨a, e0, _, wa⟩ := DataW.trod_int Tryz.underlying3 f0
      obtain ⟨b, e1, _, wb⟩ := DataW.trod_int Tryz.underlying3 f1
      simp only [List.cons.injEq, and_true] at e0 e1
      subst e0 e1
      exact ⟨(a, b), rfl, trivial⟩
set_option maxRecDepth 100000 in
theorem trod_dem {n : Nat} {cs : List Value} {y : DataW H × List MemPlace} (h : DataW.trod enc Tryz.prog w base spare held n 99 cs = some y) : ∃ s : Int × Int × Int × Int, cs = dmV s ∧ True := by
  obtain ⟨ys, m, _, _, hl, hyl, hf⟩ := DataW.trod_struct Tryz.underlying99 h
  rw [cells4d] at hl
  match cs, hl with
  | [v0, v1, v2, v3], _ =>
    have f0 := hf 0 _ rfl
    simp [cells1] at f0
    have f1 := hf 1 _ rfl
    simp [cells1] at f1
    have f2 := hf 2 _ rfl
    simp [cells1] at f2
    have f3 := hf 3 _ rfl
    simp [cells1] at f3
    match ys, hyl with
    | [y0, y1, y2, y3], _ =>
      obtain ⟨a, e0, _, _⟩ := DataW.trod_int Tryz.underlying3 f0
      obtain ⟨b, e1, _, _⟩ := DataW.trod_int Tryz.underlying3 f1
      obtain ⟨c, e2, _, _⟩ := DataW.trod_int Tryz.underlying3 f2
      obtain ⟨d, e3, _, _⟩ := DataW.trod_int Tryz.underlying3 f3
      simp only [List.cons.injEq, and_true] at e0 e1 e2 e3
      subst e0 e1 e2 e3
      exact ⟨(a, b, c, d), rfl, trivial⟩
set_option maxRecDepth 100000 in
theorem trod_route {n : Nat} {cs : List Value} {y : DataW H × List MemPlace} (h : DataW.trod enc Tryz.prog w base spare held n 92 cs = some y) : ∃ p : Int × Int × Int, cs = pfV p ∧ ((0 ≤ p.1 ∧ p.1 < 4294967296) ∧ inI p.2.1 ∧ inI p.2.2) := by
  obtain ⟨ys, m, _, _, hl, hyl, hf⟩ := DataW.trod_struct Tryz.underlying92 h
  rw [cells3r] at hl
  match cs, hl with
  | [v0, v1, v2], _ =>
    have f0 := hf 0 _ rfl
    simp [cells2x] at f0
    have f1 := hf 1 _ rfl
    simp [cells1] at f1
    match ys, hyl with
    | [y0, y1], _ =>
      obtain ⟨zs, m2, _, _, hl2, hzl, hg⟩ := DataW.trod_struct Tryz.underlying90 f0
      have g0 := hg 0 _ rfl
      have g1 := hg 1 _ rfl
      simp [cells1, cells1u] at g0 g1
      match zs, hzl with
      | [z0, z1], _ =>
        obtain ⟨a, e0, _, wa⟩ := DataW.trod_int Tryz.underlying88 g0
        obtain ⟨b, e1, _, wb⟩ := DataW.trod_int Tryz.underlying3 g1
        obtain ⟨c, e2, _, wc⟩ := DataW.trod_int Tryz.underlying3 f1
        simp only [List.cons.injEq, and_true] at e0 e1 e2
        subst e0 e1 e2
        have := bounds_u32 wa
        exact ⟨(a, b, c), rfl, ⟨by omega, by omega⟩, wf64 wb, wf64 wc⟩
set_option maxRecDepth 100000 in
theorem trod_policy {n : Nat} {cs : List Value} {y : DataW H × List MemPlace} (h : DataW.trod enc Tryz.prog w base spare held n 95 cs = some y) :
    ∃ x : (Int × Int × List (Int × Int)) × (Option Addr × Nat), cs = plV x ∧ ((inI x.1.1 ∧ inI x.1.2.1) ∧ Rd w x.2.1 (x.1.2.2.flatMap sgV) ∧ x.1.2.2.length ≤ maxLen) := by
  obtain ⟨ys, m, _, _, hl, hyl, hf⟩ := DataW.trod_struct Tryz.underlying95 h
  rw [cells3p] at hl
  match cs, hl with
  | [v0, v1, v2], _ =>
    have f0 := hf 0 _ rfl
    simp [cells1] at f0
    have f1 := hf 1 _ rfl
    simp [cells1] at f1
    have f2 := hf 2 _ rfl
    simp [cells1q] at f2
    match ys, hyl with
    | [y0, y1, y2], _ =>
      obtain ⟨a, e0, _, wa⟩ := DataW.trod_int Tryz.underlying3 f0
      obtain ⟨b, e1, _, wb⟩ := DataW.trod_int Tryz.underlying3 f1
      obtain ⟨A, cap, zs, e2, hm, _, _, _, hr⟩ := open_flat sgV (fun _ => True) Tryz.underlying93 cells2s (by omega) (fun _ => rfl) (fun n cs y hy => trod_seg2 hy) f2
      simp only [List.cons.injEq, and_true] at e0 e1
      subst e0 e1 e2
      exact ⟨((a, b, zs), (A, cap)), rfl, ⟨wf64 wa, wf64 wb⟩, hr, hm⟩
set_option maxRecDepth 100000 in
theorem trod_str {n : Nat} {cs : List Value} {y : DataW H × List MemPlace} (h : DataW.trod enc Tryz.prog w base spare held n 9 cs = some y) : ∃ s : List UInt8, cs = [strW s] ∧ True := by
  obtain ⟨s, rfl, _, _⟩ := DataW.trod_string Tryz.underlying9 h
  exact ⟨s.data.toList, by simp [strW], trivial⟩
theorem flat_strs (l : List (List UInt8)) : l.flatMap (fun s => [strW s]) = l.map strW := by
  induction l with
  | nil => rfl
  | cons x r ih => rw [List.flatMap_cons, ih]; rfl
theorem zip_map2 {α β : Type} : ∀ l : List (α × β), (l.map Prod.fst).zip (l.map Prod.snd) = l
  | [] => rfl
  | x :: r => by rw [List.map_cons, List.map_cons, List.zip_cons_cons, zip_map2 r]
theorem array13 {cs : Array Value} (h : cs.size = 13) : ∃ c0 c1 c2 c3 c4 c5 c6 c7 c8 c9 c10 c11 c12, cs = #[c0, c1, c2, c3, c4, c5, c6, c7, c8, c9, c10, c11, c12] := by
  obtain ⟨l⟩ := cs
  match l, h with
  | [a, b, c, d, e, f, g, i, j, k, m, n, o], _ => exact ⟨a, b, c, d, e, f, g, i, j, k, m, n, o, rfl⟩
set_option maxHeartbeats 4000000 in
set_option maxRecDepth 100000 in
/-- A configuration that came in. -/
theorem open_cfg {r : Reach} {b0 : Nat} {v : Value} {d : DataW H} {p : List MemPlace} (hv : Value.okWide Tryz.prog w r b0 56 v) (h : DataW.Trod enc Tryz.prog w base spare held 56 v d p) :
    ∃ (n : Int) (R : Rws) (c : Cf), v = .agg (cfCells n R c) ∧ VLim c ∧ (c.names.length ≤ maxLen ∧ c.lnames.length ≤ maxLen) ∧ CAt w R c := by
  obtain ⟨cs, rfl, hsz⟩ := okWide_struct Tryz.underlying56 hv
  obtain ⟨c0, c1, c2, c3, c4, c5, c6, c7, c8, c9, c10, c11, c12, rfl⟩ := array13 (hsz.trans cellsCf)
  obtain ⟨fuel, hf0⟩ := h
  obtain ⟨ys, m, _, _, _, hyl, hf⟩ := DataW.trod_struct Tryz.underlying56 hf0
  have f0 := hf 0 _ rfl
  simp [cells1g, Value.cells] at f0
  have f1 := hf 1 _ rfl
  simp [cells1g, Value.cells] at f1
  have f2 := hf 2 _ rfl
  simp [cells3, Value.cells] at f2
  have f3 := hf 3 _ rfl
  simp [cells1r, Value.cells] at f3
  have f4 := hf 4 _ rfl
  simp [cells1p, Value.cells] at f4
  have f5 := hf 5 _ rfl
  simp [cells1d, Value.cells] at f5
  have f6 := hf 6 _ rfl
  simp [cells5, Value.cells] at f6
  match ys, hyl with
  | [y0, y1, y2, y3, y4, y5, y6], _ =>
    obtain ⟨A0, k0, l0, rfl, m0, _, _, _, r0⟩ := open_flat (fun s => [strW s]) (fun _ => True) Tryz.underlying27 cells1s (by omega) (fun _ => rfl) (fun n cs y hy => trod_str hy) f0
    obtain ⟨A1, k1, l1, rfl, m1, _, _, _, r1⟩ := open_flat (fun s => [strW s]) (fun _ => True) Tryz.underlying27 cells1s (by omega) (fun _ => rfl) (fun n cs y hy => trod_str hy) f1
    obtain ⟨zs, m2, _, _, _, hzl, hg⟩ := DataW.trod_struct Tryz.underlying31 f2
    have g0 := hg 0 _ rfl
    simp [cells1] at g0
    have g1 := hg 1 _ rfl
    simp [cells1b] at g1
    have g2 := hg 2 _ rfl
    simp [cells1l] at g2
    match zs, hzl with
    | [z0, z1, z2], _ =>
      obtain ⟨n, e0, _, wn⟩ := DataW.trod_int Tryz.underlying3 g0
      obtain ⟨A2, k2, ov, rfl, ho1, ho2, hov⟩ := open_boolsF Tryz.underlying28 Tryz.underlying4 cellsB g1
      obtain ⟨A3, k3, ls, rfl, hl1, hl2, hlb, hls⟩ := open_linksF g2
      obtain ⟨A4, k4, pf, rfl, m4, g4, _, _, r4⟩ := open_flat pfV (fun p => (0 ≤ p.1 ∧ p.1 < 4294967296) ∧ inI p.2.1 ∧ inI p.2.2) Tryz.underlying32 cells3r (by omega) (fun _ => rfl) (fun n cs y hy => trod_route hy) f3
      obtain ⟨A5, k5, pl, rfl, m5, g5, _, _, r5⟩ := open_flat plV (fun x => (inI x.1.1 ∧ inI x.1.2.1) ∧ Rd w x.2.1 (x.1.2.2.flatMap sgV) ∧ x.1.2.2.length ≤ maxLen) Tryz.underlying33 cells3p (by omega) (fun _ => rfl) (fun n cs y hy => trod_policy hy) f4
      obtain ⟨A6, k6, dm, rfl, m6, _, _, _, r6⟩ := open_flat dmV (fun _ => True) Tryz.underlying34 cells4d (by omega) (fun _ => rfl) (fun n cs y hy => trod_dem hy) f5
      obtain ⟨ts, m7, _, _, _, htl, ht⟩ := DataW.trod_array Tryz.underlying35 f6
      have t0 := ht 0 (by omega)
      have t1 := ht 1 (by omega)
      have t2 := ht 2 (by omega)
      have t3 := ht 3 (by omega)
      have t4 := ht 4 (by omega)
      simp [cells1] at t0 t1 t2 t3 t4
      match ts, htl with
      | [u0, u1, u2, u3, u4], _ =>
        obtain ⟨x0, q0, _, _⟩ := DataW.trod_int Tryz.underlying3 t0
        obtain ⟨x1, q1, _, _⟩ := DataW.trod_int Tryz.underlying3 t1
        obtain ⟨x2, q2, _, _⟩ := DataW.trod_int Tryz.underlying3 t2
        obtain ⟨x3, q3, _, _⟩ := DataW.trod_int Tryz.underlying3 t3
        obtain ⟨x4, q4, _, _⟩ := DataW.trod_int Tryz.underlying3 t4
        simp only [List.cons.injEq, and_true] at e0 q0 q1 q2 q3 q4
        subst e0 q0 q1 q2 q3 q4
        rw [flat_strs] at r0 r1
        refine ⟨n, ⟨A0, k0, A1, k1, A3, k3, A4, k4, A5, k5, A6, k6, A2, k2, pl.map Prod.snd, []⟩, ⟨l0, l1, ls, pf, pl.map Prod.fst, dm, [x0, x1, x2, x3, x4], ov, [], [], [], []⟩, ?_, ?_, ⟨m0, m1⟩, ?_⟩
        · simp [cfCells]
        · refine ⟨m4, by simpa using m5, m6, g4, fun q hq => ?_⟩
          obtain ⟨z, hz, rfl⟩ := List.mem_map.1 hq
          exact (g5 z hz).1
        · refine ⟨r0, r1, hls, hov, r4, ?_, fun x hx => ?_, r6, by simp⟩
          · show Rd w A5 (((pl.map Prod.fst).zip (pl.map Prod.snd)).flatMap plV)
            rw [zip_map2]; exact r5
          · have hx2 : x ∈ (pl.map Prod.fst).zip (pl.map Prod.snd) := hx
            rw [zip_map2] at hx2
            exact (g5 x hx2).2
end

end Go.Proofs.YtpofbhaipeiegaaGreatDoor
