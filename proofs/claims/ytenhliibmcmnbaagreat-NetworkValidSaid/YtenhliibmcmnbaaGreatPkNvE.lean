/-
  waypointref54.act (printed by gen_nve.py).
  Lists of fates; waypointref54.fates.
  Two of the library's moves through a region that draws its order, for operations written out as a list.
  The methods of a nil router; named; timed.
  timed: each of the five timers lies in 1..65536.
  A setup in plain Lean: where it lies, when it is valid.
  waypointref54.Valid.
-/
import Derived.Test.YtenhliibmcmnbaaGreatPkRtE
import Derived.Deep.RegionHeld3
import Derived.Test.YtenhliibmcmnbaaGreatPkKp
import Derived.Test.YtenhliibmcmnbaaGreatPkBase
namespace Go.Proofs.YtenhliibmcmnbaaGreat
set_option linter.unusedSimpArgs false
set_option linter.unusedVariables false
open Go.RowKit Go.Sort
section
variable {w : World}
set_option maxRecDepth 100000 in
set_option maxHeartbeats 4000000 in
theorem ref54_act (t : Topo) (A1 A2 : Option Addr) (c1 c2 : Nat) (a : AcN) (hT : TAt w A1 A2 t) (hl : t.ls.length ≤ 100000) (hs : a.sn ≤ 100000) :
  Calls Tryz.prog 63 #[.agg #[.int .i64 t.n, .slice A1 t.ov.length c1, .slice A2 t.ls.length c2], .agg #[.int .i64 a.time, .int .i64 a.kind, .int .i64 a.id, .int .i64 a.src, .int .i64 a.dst, .int .i64 a.p3, .slice a.st a.sn a.sc, .int .i64 a.p5, .int .i64 a.ck, .int .i64 a.cm, .int .i64 a.node, .bool a.on, .int .i64 a.arc, .int .i64 a.cost]] w fun e w' => e = .returned (.bool (acOk t a)) ∧ Below w.heap.size w w' := by
 have HB := Lib.hid (Below.refl w.heap.size w)
 have HT := Lib.hid hT
 clear hT
 obtain ⟨R, hR⟩ : ∃ R, R = acOk t a := ⟨_, rfl⟩
 rw [← hR]
 have HR := Lib.hid hR
 clear hR
 obtain ⟨tm, kd, id, sr, ds, p3, st, sn, sc, p5, ck, cm, nd, on, ar, co⟩ := a
 by_cases h1 : kd = 1
 ·subst h1
  have HR1 : Hid (R = (inR id 0 1073741824 && isN t.n sr && isN t.n ds && decide (sn ≤ 32))) := Lib.hid HR.out
  by_cases q0 : id < 0
  ·skip
   have HRV : Hid (R = false) := Lib.hid (by rw [HR1.out]; simp [inR, isN]; omega)
   go_enter Tryz.func63, Tryz.ntmps63
   go_wp2_with fail
   go_ret
   exact ⟨by rw [HRV.out]; first | rfl | simp_all, by (repeat' (first | (with_reducible exact HB.out) | (with_reducible refine Bset ?_ ?_) | (with_reducible refine Bdrw ?_) | (with_reducible refine Bbox ?_ ?_) | omega | (simp; done) | (simp; omega)))⟩
  by_cases q1 : 1073741824 < id
  ·skip
   have HRV : Hid (R = false) := Lib.hid (by rw [HR1.out]; simp [inR, isN]; omega)
   go_enter Tryz.func63, Tryz.ntmps63
   go_wp2_with fail
   go_ret
   exact ⟨by rw [HRV.out]; first | rfl | simp_all, by (repeat' (first | (with_reducible exact HB.out) | (with_reducible refine Bset ?_ ?_) | (with_reducible refine Bdrw ?_) | (with_reducible refine Bbox ?_ ?_) | omega | (simp; done) | (simp; omega)))⟩
  by_cases q2 : sr < 0
  ·skip
   have HRV : Hid (R = false) := Lib.hid (by rw [HR1.out]; simp [inR, isN]; omega)
   go_enter Tryz.func63, Tryz.ntmps63
   go_wp2_with fail
   go_ret
   exact ⟨by rw [HRV.out]; first | rfl | simp_all, by (repeat' (first | (with_reducible exact HB.out) | (with_reducible refine Bset ?_ ?_) | (with_reducible refine Bdrw ?_) | (with_reducible refine Bbox ?_ ?_) | omega | (simp; done) | (simp; omega)))⟩
  by_cases q3 : t.n ≤ sr
  ·skip
   have HRV : Hid (R = false) := Lib.hid (by rw [HR1.out]; simp [inR, isN]; omega)
   go_enter Tryz.func63, Tryz.ntmps63
   go_wp2_with fail
   go_ret
   exact ⟨by rw [HRV.out]; first | rfl | simp_all, by (repeat' (first | (with_reducible exact HB.out) | (with_reducible refine Bset ?_ ?_) | (with_reducible refine Bdrw ?_) | (with_reducible refine Bbox ?_ ?_) | omega | (simp; done) | (simp; omega)))⟩
  by_cases q4 : ds < 0
  ·skip
   have HRV : Hid (R = false) := Lib.hid (by rw [HR1.out]; simp [inR, isN]; omega)
   go_enter Tryz.func63, Tryz.ntmps63
   go_wp2_with fail
   go_ret
   exact ⟨by rw [HRV.out]; first | rfl | simp_all, by (repeat' (first | (with_reducible exact HB.out) | (with_reducible refine Bset ?_ ?_) | (with_reducible refine Bdrw ?_) | (with_reducible refine Bbox ?_ ?_) | omega | (simp; done) | (simp; omega)))⟩
  by_cases q5 : t.n ≤ ds
  ·skip
   have HRV : Hid (R = false) := Lib.hid (by rw [HR1.out]; simp [inR, isN]; omega)
   go_enter Tryz.func63, Tryz.ntmps63
   go_wp2_with fail
   go_ret
   exact ⟨by rw [HRV.out]; first | rfl | simp_all, by (repeat' (first | (with_reducible exact HB.out) | (with_reducible refine Bset ?_ ?_) | (with_reducible refine Bdrw ?_) | (with_reducible refine Bbox ?_ ?_) | omega | (simp; done) | (simp; omega)))⟩
  by_cases q6 : (32 : Int) < (sn : Int)
  ·skip
   have HRV : Hid (R = false) := Lib.hid (by rw [HR1.out]; simp [inR, isN]; omega)
   go_enter Tryz.func63, Tryz.ntmps63
   go_wp2_with fail
   go_ret
   exact ⟨by rw [HRV.out]; first | rfl | simp_all, by (repeat' (first | (with_reducible exact HB.out) | (with_reducible refine Bset ?_ ?_) | (with_reducible refine Bdrw ?_) | (with_reducible refine Bbox ?_ ?_) | omega | (simp; done) | (simp; omega)))⟩
  have HRV : Hid (R = true) := Lib.hid (by rw [HR1.out]; simp [inR, isN]; omega)
  go_enter Tryz.func63, Tryz.ntmps63
  go_wp2_with fail
  go_ret
  exact ⟨by rw [HRV.out]; first | rfl | simp_all, by (repeat' (first | (with_reducible exact HB.out) | (with_reducible refine Bset ?_ ?_) | (with_reducible refine Bdrw ?_) | (with_reducible refine Bbox ?_ ?_) | omega | (simp; done) | (simp; omega)))⟩
 by_cases h2 : kd = 2
 ·subst h2
  clear h1
  go_enter Tryz.func63, Tryz.ntmps63
  go_wp2_with (go_at_call 127; refine (ref10_Valid t A1 A2 c1 c2 ck cm _ (HT.out.below (by (repeat' (first | (with_reducible exact HB.out) | (with_reducible refine Bset ?_ ?_) | (with_reducible refine Bdrw ?_) | (with_reducible refine Bbox ?_ ?_) | omega | (simp; done) | (simp; omega)))))).mono ?_; rintro e w5 ⟨rfl, hb⟩; have HB5 := Lib.hid (below_next (show Below w.heap.size w _ from by (repeat' (first | (with_reducible exact HB.out) | (with_reducible refine Bset ?_ ?_) | (with_reducible refine Bdrw ?_) | (with_reducible refine Bbox ?_ ?_) | omega | (simp; done) | (simp; omega)))) hb); clear hb)
  go_ret
  exact ⟨by rw [HR.out]; rfl, HB5.out⟩
 by_cases h3 : kd = 3
 ·subst h3
  clear h1 h2
  go_enter Tryz.func63, Tryz.ntmps63
  go_wp2_with (go_at_call 127; refine (ref10_Valid t A1 A2 c1 c2 ck cm _ (HT.out.below (by (repeat' (first | (with_reducible exact HB.out) | (with_reducible refine Bset ?_ ?_) | (with_reducible refine Bdrw ?_) | (with_reducible refine Bbox ?_ ?_) | omega | (simp; done) | (simp; omega)))))).mono ?_; rintro e w5 ⟨rfl, hb⟩; have HB5 := Lib.hid (below_next (show Below w.heap.size w _ from by (repeat' (first | (with_reducible exact HB.out) | (with_reducible refine Bset ?_ ?_) | (with_reducible refine Bdrw ?_) | (with_reducible refine Bbox ?_ ?_) | omega | (simp; done) | (simp; omega)))) hb); clear hb)
  go_ret
  exact ⟨by rw [HR.out]; rfl, HB5.out⟩
 by_cases h4 : kd = 4
 ·subst h4
  clear h1 h2 h3
  have HR1 : Hid (R = (isN t.n nd)) := Lib.hid HR.out
  by_cases q0 : nd < 0
  ·skip
   have HRV : Hid (R = false) := Lib.hid (by rw [HR1.out]; simp [inR, isN]; omega)
   go_enter Tryz.func63, Tryz.ntmps63
   go_wp2_with fail
   go_ret
   exact ⟨by rw [HRV.out]; first | rfl | simp_all, by (repeat' (first | (with_reducible exact HB.out) | (with_reducible refine Bset ?_ ?_) | (with_reducible refine Bdrw ?_) | (with_reducible refine Bbox ?_ ?_) | omega | (simp; done) | (simp; omega)))⟩
  by_cases q1 : t.n ≤ nd
  ·skip
   have HRV : Hid (R = false) := Lib.hid (by rw [HR1.out]; simp [inR, isN]; omega)
   go_enter Tryz.func63, Tryz.ntmps63
   go_wp2_with fail
   go_ret
   exact ⟨by rw [HRV.out]; first | rfl | simp_all, by (repeat' (first | (with_reducible exact HB.out) | (with_reducible refine Bset ?_ ?_) | (with_reducible refine Bdrw ?_) | (with_reducible refine Bbox ?_ ?_) | omega | (simp; done) | (simp; omega)))⟩
  have HRV : Hid (R = true) := Lib.hid (by rw [HR1.out]; simp [inR, isN]; omega)
  go_enter Tryz.func63, Tryz.ntmps63
  go_wp2_with fail
  go_ret
  exact ⟨by rw [HRV.out]; first | rfl | simp_all, by (repeat' (first | (with_reducible exact HB.out) | (with_reducible refine Bset ?_ ?_) | (with_reducible refine Bdrw ?_) | (with_reducible refine Bbox ?_ ?_) | omega | (simp; done) | (simp; omega)))⟩
 by_cases h5 : kd = 5
 ·subst h5
  clear h1 h2 h3 h4
  have HR1 : Hid (R = (isN (2 * (t.ls.length : Int)) ar && inR co 1 65535)) := Lib.hid HR.out
  by_cases q0 : ar < 0
  ·skip
   have HRV : Hid (R = false) := Lib.hid (by rw [HR1.out]; simp [inR, isN]; omega)
   go_enter Tryz.func63, Tryz.ntmps63
   go_wp2_with fail
   go_ret
   exact ⟨by rw [HRV.out]; first | rfl | simp_all, by (repeat' (first | (with_reducible exact HB.out) | (with_reducible refine Bset ?_ ?_) | (with_reducible refine Bdrw ?_) | (with_reducible refine Bbox ?_ ?_) | omega | (simp; done) | (simp; omega)))⟩
  by_cases q1 : 2 * (t.ls.length : Int) ≤ ar
  ·skip
   have HRV : Hid (R = false) := Lib.hid (by rw [HR1.out]; simp [inR, isN]; omega)
   go_enter Tryz.func63, Tryz.ntmps63
   go_wp2_with fail
   go_ret
   exact ⟨by rw [HRV.out]; first | rfl | simp_all, by (repeat' (first | (with_reducible exact HB.out) | (with_reducible refine Bset ?_ ?_) | (with_reducible refine Bdrw ?_) | (with_reducible refine Bbox ?_ ?_) | omega | (simp; done) | (simp; omega)))⟩
  by_cases q2 : co < 1
  ·skip
   have HRV : Hid (R = false) := Lib.hid (by rw [HR1.out]; simp [inR, isN]; omega)
   go_enter Tryz.func63, Tryz.ntmps63
   go_wp2_with fail
   go_ret
   exact ⟨by rw [HRV.out]; first | rfl | simp_all, by (repeat' (first | (with_reducible exact HB.out) | (with_reducible refine Bset ?_ ?_) | (with_reducible refine Bdrw ?_) | (with_reducible refine Bbox ?_ ?_) | omega | (simp; done) | (simp; omega)))⟩
  by_cases q3 : 65535 < co
  ·skip
   have HRV : Hid (R = false) := Lib.hid (by rw [HR1.out]; simp [inR, isN]; omega)
   go_enter Tryz.func63, Tryz.ntmps63
   go_wp2_with fail
   go_ret
   exact ⟨by rw [HRV.out]; first | rfl | simp_all, by (repeat' (first | (with_reducible exact HB.out) | (with_reducible refine Bset ?_ ?_) | (with_reducible refine Bdrw ?_) | (with_reducible refine Bbox ?_ ?_) | omega | (simp; done) | (simp; omega)))⟩
  have HRV : Hid (R = true) := Lib.hid (by rw [HR1.out]; simp [inR, isN]; omega)
  go_enter Tryz.func63, Tryz.ntmps63
  go_wp2_with fail
  go_ret
  exact ⟨by rw [HRV.out]; first | rfl | simp_all, by (repeat' (first | (with_reducible exact HB.out) | (with_reducible refine Bset ?_ ?_) | (with_reducible refine Bdrw ?_) | (with_reducible refine Bbox ?_ ?_) | omega | (simp; done) | (simp; omega)))⟩
 have HRF : Hid (R = false) := Lib.hid (by rw [HR.out]; simp [acOk, h1, h2, h3, h4, h5])
 go_enter Tryz.func63, Tryz.ntmps63
 go_wp2_with fail
 go_ret
 exact ⟨by rw [HRF.out]; rfl, by (repeat' (first | (with_reducible exact HB.out) | (with_reducible refine Bset ?_ ?_) | (with_reducible refine Bdrw ?_) | (with_reducible refine Bbox ?_ ?_) | omega | (simp; done) | (simp; omega)))⟩
end
end Go.Proofs.YtenhliibmcmnbaaGreat
namespace Go.Proofs.YtenhliibmcmnbaaGreat
set_option linter.unusedSimpArgs false
set_option linter.unusedVariables false
open Go.RowKit Go.Sort
/-- A list of fates: its place, its capacity, its fates. -/
abbrev FtL := Option Addr × Nat × List (Int × Int)
def ftV (x : FtL) : Value := .slice x.1 x.2.2.length x.2.1
/-- Lists of fates that lie in memory. -/
structure FtAt (w : World) (A : Option Addr) (L : List FtL) : Prop where
 row : Rd w A (L.map ftV)
 each : ∀ x ∈ L, Rd w x.1 (x.2.2.flatMap fateV) ∧ x.2.2.length ≤ 1000000
theorem FtAt.below {w w' : World} {A : Option Addr} {L : List FtL} (h : FtAt w A L) (hb : Below w.heap.size w w') : FtAt w' A L :=
 ⟨h.row.below hb, fun x hx => ⟨(h.each x hx).1.below hb, (h.each x hx).2⟩⟩
theorem FtAt.at_ {w : World} {A : Option Addr} {L : List FtL} {k : Nat} {x : FtL} (h : FtAt w A L) (hk : L[k]? = some x) : ∃ b o, A = some ⟨b, o, none⟩ ∧ w.cell? ⟨b, o + k, none⟩ = some (ftV x) :=
 h.row.at_ (by rw [List.getElem?_map, hk]; rfl)
def ftOk (L : List FtL) : Bool := L.all fun x => x.2.2.all fateOk
theorem ft_bad {L : List FtL} {k : Nat} {x : FtL} (h : L[k]? = some x) (hf : x.2.2.all fateOk = false) : ftOk L = false := by
 cases hc : ftOk L with
 | false => rfl
 | true =>
  have := List.all_eq_true.1 hc x (List.mem_of_getElem? h)
  rw [hf] at this
  cases this
section
variable {w : World}
set_option maxRecDepth 100000 in
set_option maxHeartbeats 4000000 in
theorem ref54_fates (arcs : Int) (A : Option Addr) (c : Nat) (L : List FtL) (hA : FtAt w A L) (hl : L.length ≤ 1000000) :
  Calls Tryz.prog 64 #[.int .i64 arcs, .slice A L.length c] w fun e w' => e = .returned (.bool (ftOk L && decide ((L.length : Int) ≤ arcs))) ∧ Below w.heap.size w w' := by
 have HB := Lib.hid (Below.refl w.heap.size w)
 obtain ⟨R, hR⟩ : ∃ R, R = (ftOk L && decide ((L.length : Int) ≤ arcs)) := ⟨_, rfl⟩
 rw [← hR]
 have HR := Lib.hid hR
 have HA := Lib.hid hA
 clear hR hA
 go_enter Tryz.func64, Tryz.ntmps64
 go_wp2_with fail
 go_loopg [5] L.length (fun gg i wx => ∃ q : Nat, q + gg = L.length ∧ i = .int .i64 q ∧ Hid (∀ j x, j < q → L[j]? = some x → x.2.2.all fateOk = true) ∧ Hid (Below w.heap.size w wx))
 case atStart => exact ⟨0, by omega, rfl, Lib.hid (fun j f hj => absurd hj (by omega)), HB⟩
 case round =>
  obtain ⟨q, hq, rfl, HOK, HW⟩ := hrel
  by_cases hlt : q < L.length
  ·have hlt' : (q : Int) < (L.length : Int) := by omega
   obtain ⟨x, hx⟩ : ∃ x, L[q]? = some x := ⟨_, List.getElem?_eq_getElem hlt⟩
   have HAW := Lib.hid (HA.out.below HW.out)
   obtain ⟨bz, oz, rfl, cf⟩ := HAW.out.at_ hx
   obtain ⟨xa, xc, fs⟩ := x
   have cf' : wr.cell? ⟨bz, oz + q, none⟩ = some (.slice xa fs.length xc) := cf
   have HF := Lib.hid hx
   have HE := Lib.hid (HAW.out.each _ (List.mem_of_getElem? hx))
   clear hx cf
   cases hok : fs.all fateOk with
   | false =>
    have HFK := Lib.hid hok
    clear hok
    go_wp2_with (go_at_call 128; refine (ref52_Valid xa xc fs HE.out.1 HE.out.2).mono ?_; rw [HFK.out]; rintro e w5 ⟨rfl, hb⟩; have HW5 := Lib.hid (below_next HW.out hb); clear hb)
    go_ret
    exact ⟨by show Ending.returned (.bool false) = _; rw [HR.out, ft_bad HF.out HFK.out]; rfl, HW5.out⟩
   | true =>
    have HFK := Lib.hid hok
    clear hok
    go_wp2_with (go_at_call 128; refine (ref52_Valid xa xc fs HE.out.1 HE.out.2).mono ?_; rw [HFK.out]; rintro e w5 ⟨rfl, hb⟩; have HW5 := Lib.hid (below_next HW.out hb); clear hb)
    go_roundg (gk - 1)
    case measure => omega
    case rel =>
     refine ⟨q + 1, by omega, by go_num, Lib.hid (fun j y hj hy => ?_), HW5⟩
     by_cases hjq : j = q
     ·subst hjq
      rw [HF.out] at hy
      injection hy with hy
      subst hy
      exact HFK.out
     ·exact HOK.out j y (by omega) hy
  ·obtain rfl : q = L.length := by omega
   have hlf : ¬ ((L.length : Int) < (L.length : Int)) := by omega
   have HAL : Hid (ftOk L = true) := Lib.hid (List.all_eq_true.2 (fun y hy => by
    obtain ⟨j, hj, rfl⟩ := List.getElem_of_mem hy
    exact HOK.out j _ hj (List.getElem?_eq_getElem hj)))
   go_wp2_with fail
   go_ret
   exact ⟨by show Ending.returned (.bool (decide ((L.length : Int) ≤ arcs))) = _; rw [HR.out, HAL.out]; rfl, HW.out⟩
end
end Go.Proofs.YtenhliibmcmnbaaGreat
namespace Go.Proofs.YtenhliibmcmnbaaGreat
section
variable {P : Program} {l : List Oper} {Q : Exit → Act → World → Prop} {md : Region.Mode} {S : World → Prop}
theorem takeL {i : Nat} {oi : Oper} {v : Value} {fuel : Nat} {listed : Array Bool} {a : Act} {w : World} (hi : l[i]? = some oi)
  (hs : Region.noSelect l.toArray = true) (hf : Region.free md l.toArray listed i = true) (hr : (Region.ready md l.toArray listed).contains i = true)
  (hQ : ∀ c a w, Q (.panic c) (a.put oi.dst v) w → Q (.panic c) a w) (hy : YieldsIf P l.toArray S oi v a) (hS : S w)
  (h : wpAnyH P md l.toArray Q S fuel (listed.setIfInBounds i true) (a.put oi.dst v) w) : wpAnyH P md l.toArray Q S (fuel + 1) listed a w :=
 wpAnyH_take (by simpa using hi) hs hf hr hQ hy hS h
theorem consL {fuel : Nat} {listed : Array Bool} {a : Act} {w : World} {i : Nat} {o : Oper} {rs : List Nat} (ho : l[i]? = some o)
  (h : ∀ K' : Act → World → Prop, Shut (∀ a w, S w → (S w → wpAnyH P md l.toArray Q S fuel (listed.setIfInBounds i true) a w) → K' a w) → if Region.wanted o (yielded l.toArray a.tmps) = true then Oper.wp P o a w K' Q else K' (a.put o.dst undef) w)
  (hs : AllReadyH P md l.toArray Q S fuel listed a w rs) : AllReadyH P md l.toArray Q S fuel listed a w (i :: rs) :=
 AllReadyH.cons (by simpa using ho) h hs
end
end Go.Proofs.YtenhliibmcmnbaaGreat
namespace Go.Proofs.YtenhliibmcmnbaaGreat
set_option linter.unusedSimpArgs false
set_option linter.unusedVariables false
open Go.RowKit Go.Sort
section
variable {w : World}
theorem wp_named2 {P : Program} {c : Code} {Q : Exit → Act → World → Prop} {a : Act} {W : World} (R : World → Prop) (h : R W) (k : ∀ W', R W' → c.wp P Q a W') : c.wp P Q a W := k W h
end
end Go.Proofs.YtenhliibmcmnbaaGreat
namespace Go.Proofs.YtenhliibmcmnbaaGreat
set_option linter.unusedSimpArgs false
set_option linter.unusedVariables false
open Go.RowKit Go.Sort
section
variable {w : World}
def tmsOk (xs : List Int) : Bool := xs.all fun x => inR x 1 65536
theorem tms_bad {xs : List Int} {q : Nat} {x : Int} (h : xs[q]? = some x) (hx : inR x 1 65536 = false) : tmsOk xs = false := by
 cases hc : tmsOk xs with
 | false => rfl
 | true =>
  have := List.all_eq_true.1 hc x (List.mem_of_getElem? h)
  simp [hx] at this
end
end Go.Proofs.YtenhliibmcmnbaaGreat
namespace Go.Proofs.YtenhliibmcmnbaaGreat
set_option linter.unusedSimpArgs false
set_option linter.unusedVariables false
open Go.RowKit Go.Sort
theorem acV_len (a : AcN) : (acV a).length = 14 := rfl
theorem acs_len : ∀ l : List AcN, (l.flatMap acV).length = l.length * 14
 | [] => rfl
 | a :: r => by
  rw [List.flatMap_cons, List.length_append, acs_len r, List.length_cons, acV_len]
  omega
/-- The acts from the time p on: none before the one ahead of it. -/
def acsOk (t : Topo) : Int → List AcN → Bool
 | _, [] => true
 | p, a :: r => inR a.time p 1073741824 && acOk t a && acsOk t a.time r
/-- The k-th act is right, and so is its time. -/
def AcR (t : Topo) (l : List AcN) (k : Nat) : Prop :=
 ∀ a, l[k]? = some a → acOk t a = true ∧ 1 ≤ a.time ∧ a.time ≤ 1073741824 ∧ ∀ j b, k = j + 1 → l[j]? = some b → b.time ≤ a.time
theorem acsOk_iff {t : Topo} : ∀ (l : List AcN) (p : Int), 1 ≤ p → (acsOk t p l = true ↔ (∀ a, l[0]? = some a → p ≤ a.time) ∧ ∀ k, AcR t l k)
 | [], p, _ => by simp [acsOk, AcR]
 | a :: r, p, hp => by
  rw [acsOk, Bool.and_eq_true_iff, Bool.and_eq_true_iff, inR_true]
  constructor
  ·rintro ⟨⟨⟨h1, h2⟩, h3⟩, h4⟩
   obtain ⟨g1, g2⟩ := (acsOk_iff r a.time (by omega)).1 h4
   refine ⟨fun b hb => by simp at hb; subst hb; exact h1, fun k => ?_⟩
   cases k with
   | zero =>
    intro b hb
    simp at hb
    subst hb
    exact ⟨h3, by omega, h2, fun j b hj => by omega⟩
   | succ k =>
    intro b hb
    simp only [List.getElem?_cons_succ] at hb
    obtain ⟨q1, q2, q3, q4⟩ := g2 k b hb
    refine ⟨q1, q2, q3, fun j c hj hc => ?_⟩
    obtain rfl : j = k := by omega
    cases j with
    | zero =>
     simp at hc
     subst hc
     exact g1 b hb
    | succ j =>
     simp only [List.getElem?_cons_succ] at hc
     exact q4 j c rfl hc
  ·rintro ⟨g1, g2⟩
   obtain ⟨q1, q2, q3, _⟩ := g2 0 a rfl
   refine ⟨⟨⟨g1 a rfl, q3⟩, q1⟩, (acsOk_iff r a.time q2).2 ⟨fun b hb => ?_, fun k b hb => ?_⟩⟩
   ·obtain ⟨_, _, _, q⟩ := g2 1 b (by simpa using hb)
    exact q 0 a rfl rfl
   ·obtain ⟨p1, p2, p3, p4⟩ := g2 (k + 1) b (by simpa using hb)
    refine ⟨p1, p2, p3, fun j c hj hc => ?_⟩
    exact p4 (j + 1) c (by omega) (by simpa using hc)
/-- A setup: its topology, its timers, how fast links are watched, its room, the fates of messages and of packets, its acts. -/
structure SuN where
 t : Topo
 h1 : Int
 h2 : Int
 h3 : Int
 g : Int
 s : Int
 det : Int
 room : Int
 ctl : List FtL
 dat : List FtL
 acs : List AcN
def suOk (u : SuN) : Bool :=
 valid u.t && inR u.det 0 65536 && inR u.room 0 65536 && tmsOk [u.h1, u.h2, u.h3, u.g, u.s] && (ftOk u.ctl && decide ((u.ctl.length : Int) ≤ 2 * (u.t.ls.length : Int))) && (ftOk u.dat && decide ((u.dat.length : Int) ≤ 2 * (u.t.ls.length : Int))) && decide (u.acs.length ≤ 65536) && acsOk u.t 1 u.acs
/-- A setup that lies in memory. -/
structure SuAt (w : World) (A1 A2 C D S : Option Addr) (u : SuN) : Prop where
 t : TAt w A1 A2 u.t
 c : FtAt w C u.ctl
 d : FtAt w D u.dat
 s : Rd w S (u.acs.flatMap acV)
theorem SuAt.below {w w' : World} {A1 A2 C D S : Option Addr} {u : SuN} (h : SuAt w A1 A2 C D S u) (hb : Below w.heap.size w w') : SuAt w' A1 A2 C D S u :=
 ⟨h.t.below hb, h.c.below hb, h.d.below hb, h.s.below hb⟩
end Go.Proofs.YtenhliibmcmnbaaGreat
namespace Go.Proofs.YtenhliibmcmnbaaGreat
set_option linter.unusedSimpArgs false
set_option linter.unusedVariables false
open Go.RowKit Go.Sort
/-- A setup's cells. -/
def suC (u : SuN) (A1 A2 C D S : Option Addr) (k1 k2 k3 k4 k5 : Nat) : Array Value := #[.int .i64 u.t.n, .slice A1 u.t.ov.length k1, .slice A2 u.t.ls.length k2, .int .i64 u.h1, .int .i64 u.h2, .int .i64 u.h3, .int .i64 u.g, .int .i64 u.s, .int .i64 u.det, .int .i64 u.room, .slice C u.ctl.length k3, .slice D u.dat.length k4, .slice S u.acs.length k5]
section
variable {w : World}
theorem Bl.c13 {T : TypeId} {b : Nat} {x0 x1 x2 x3 x4 x5 x6 x7 x8 x9 x10 x11 x12 : Value} {w : World} (h : Bl T b #[x0, x1, x2, x3, x4, x5, x6, x7, x8, x9, x10, x11, x12] w) : w.cell? ⟨b, 0, none⟩ = some x0 ∧ w.cell? ⟨b, 1, none⟩ = some x1 ∧ w.cell? ⟨b, 2, none⟩ = some x2 ∧ w.cell? ⟨b, 3, none⟩ = some x3 ∧ w.cell? ⟨b, 4, none⟩ = some x4 ∧ w.cell? ⟨b, 5, none⟩ = some x5 ∧ w.cell? ⟨b, 6, none⟩ = some x6 ∧ w.cell? ⟨b, 7, none⟩ = some x7 ∧ w.cell? ⟨b, 8, none⟩ = some x8 ∧ w.cell? ⟨b, 9, none⟩ = some x9 ∧ w.cell? ⟨b, 10, none⟩ = some x10 ∧ w.cell? ⟨b, 11, none⟩ = some x11 ∧ w.cell? ⟨b, 12, none⟩ = some x12 ∧ ∀ i, w.frozen? ⟨b, i, none⟩ = false :=
 ⟨h.cell 0 rfl, h.cell 1 rfl, h.cell 2 rfl, h.cell 3 rfl, h.cell 4 rfl, h.cell 5 rfl, h.cell 6 rfl, h.cell 7 rfl, h.cell 8 rfl, h.cell 9 rfl, h.cell 10 rfl, h.cell 11 rfl, h.cell 12 rfl, h.frz⟩
/-- An act out of a row of acts. -/
theorem act_at {w : World} {A : Option Addr} {l : List AcN} {k : Nat} {a : AcN} (h : Rd w A (l.flatMap acV)) (hk : l[k]? = some a) :
  ∃ b o, A = some ⟨b, o, none⟩ ∧ ∀ j v, (acV a)[j]? = some v → w.cell? ⟨b, o + k * 14 + j, none⟩ = some v := by
 obtain ⟨b, o, e1, h1⟩ := h.at_ (flat_at (enc := acV) (s := 14) (fun _ => rfl) l k a hk 0 (.int .i64 a.time) rfl)
 refine ⟨b, o, e1, fun j v hv => ?_⟩
 obtain ⟨b', o', e2, h2⟩ := h.at_ (flat_at (enc := acV) (s := 14) (fun _ => rfl) l k a hk j v hv)
 rw [e1] at e2
 injection e2 with e2
 injection e2 with e3 e4 _
 subst e3 e4
 simpa [Nat.add_assoc] using h2
/-- The timers among a setup's cells. -/
theorem tm_at {T : TypeId} {b : Nat} {h1 h2 h3 g s x : Int} {x0 x1 x2 x8 x9 x10 x11 x12 : Value} {w : World} (h : Bl T b #[x0, x1, x2, .int .i64 h1, .int .i64 h2, .int .i64 h3, .int .i64 g, .int .i64 s, x8, x9, x10, x11, x12] w) {q : Nat} (hx : [h1, h2, h3, g, s][q]? = some x) : w.cell? ⟨b, 3 + q, none⟩ = some (.int .i64 x) := by
 refine h.cell (3 + q) ?_
 match q, hx with
 | 0, hx => injection hx with hx; subst hx; rfl
 | 1, hx => injection hx with hx; subst hx; rfl
 | 2, hx => injection hx with hx; subst hx; rfl
 | 3, hx => injection hx with hx; subst hx; rfl
 | 4, hx => injection hx with hx; subst hx; rfl
 | n + 5, hx => simp at hx
/-- The cells of an act. -/
theorem ac_cells {w : World} {bz n : Nat} {a : AcN} (h : ∀ j v, (acV a)[j]? = some v → w.cell? ⟨bz, n + j, none⟩ = some v) : w.cell? ⟨bz, n, none⟩ = some (.int .i64 a.time) ∧ w.cell? ⟨bz, n + 1, none⟩ = some (.int .i64 a.kind) ∧ w.cell? ⟨bz, n + 2, none⟩ = some (.int .i64 a.id) ∧ w.cell? ⟨bz, n + 3, none⟩ = some (.int .i64 a.src) ∧ w.cell? ⟨bz, n + 4, none⟩ = some (.int .i64 a.dst) ∧ w.cell? ⟨bz, n + 5, none⟩ = some (.int .i64 a.p3) ∧ w.cell? ⟨bz, n + 6, none⟩ = some (.slice a.st a.sn a.sc) ∧ w.cell? ⟨bz, n + 7, none⟩ = some (.int .i64 a.p5) ∧ w.cell? ⟨bz, n + 8, none⟩ = some (.int .i64 a.ck) ∧ w.cell? ⟨bz, n + 9, none⟩ = some (.int .i64 a.cm) ∧ w.cell? ⟨bz, n + 10, none⟩ = some (.int .i64 a.node) ∧ w.cell? ⟨bz, n + 11, none⟩ = some (.bool a.on) ∧ w.cell? ⟨bz, n + 12, none⟩ = some (.int .i64 a.arc) ∧ w.cell? ⟨bz, n + 13, none⟩ = some (.int .i64 a.cost) :=
 ⟨h 0 _ rfl, h 1 _ rfl, h 2 _ rfl, h 3 _ rfl, h 4 _ rfl, h 5 _ rfl, h 6 _ rfl, h 7 _ rfl, h 8 _ rfl, h 9 _ rfl, h 10 _ rfl, h 11 _ rfl, h 12 _ rfl, h 13 _ rfl⟩
/-- The cells of a block of fourteen. -/
theorem Bl.c14 {T : TypeId} {b : Nat} {x0 x1 x2 x3 x4 x5 x6 x7 x8 x9 x10 x11 x12 x13 : Value} {w : World} (h : Bl T b #[x0, x1, x2, x3, x4, x5, x6, x7, x8, x9, x10, x11, x12, x13] w) : w.cell? ⟨b, 0, none⟩ = some x0 ∧ w.cell? ⟨b, 1, none⟩ = some x1 ∧ w.cell? ⟨b, 2, none⟩ = some x2 ∧ w.cell? ⟨b, 3, none⟩ = some x3 ∧ w.cell? ⟨b, 4, none⟩ = some x4 ∧ w.cell? ⟨b, 5, none⟩ = some x5 ∧ w.cell? ⟨b, 6, none⟩ = some x6 ∧ w.cell? ⟨b, 7, none⟩ = some x7 ∧ w.cell? ⟨b, 8, none⟩ = some x8 ∧ w.cell? ⟨b, 9, none⟩ = some x9 ∧ w.cell? ⟨b, 10, none⟩ = some x10 ∧ w.cell? ⟨b, 11, none⟩ = some x11 ∧ w.cell? ⟨b, 12, none⟩ = some x12 ∧ w.cell? ⟨b, 13, none⟩ = some x13 ∧ ∀ i, w.frozen? ⟨b, i, none⟩ = false :=
 ⟨h.cell 0 rfl, h.cell 1 rfl, h.cell 2 rfl, h.cell 3 rfl, h.cell 4 rfl, h.cell 5 rfl, h.cell 6 rfl, h.cell 7 rfl, h.cell 8 rfl, h.cell 9 rfl, h.cell 10 rfl, h.cell 11 rfl, h.cell 12 rfl, h.cell 13 rfl, h.frz⟩
set_option maxRecDepth 100000 in
set_option maxHeartbeats 8000000 in
theorem ref54_Valid (u : SuN) (A1 A2 C D S : Option Addr) (k1 k2 k3 k4 k5 : Nat) (hU : SuAt w A1 A2 C D S u) (hl : u.t.ls.length ≤ 1000) (hc : u.ctl.length ≤ 1000) (hd : u.dat.length ≤ 1000) (hs : u.acs.length ≤ 1000) (hk : ∀ a ∈ u.acs, a.sn ≤ 1000) :
  Calls Tryz.prog 23 #[.agg (suC u A1 A2 C D S k1 k2 k3 k4 k5)] w fun e w' => e = .returned (.bool (suOk u)) ∧ Below w.heap.size w w' := by
 have HU := Lib.hid hU
 have HK := Lib.hid hk
 clear hU hk
 obtain ⟨R, hR⟩ : ∃ R, R = suOk u := ⟨_, rfl⟩
 rw [← hR]
 have HR := Lib.hid hR
 clear hR
 obtain ⟨t, h1, h2, h3, g, s, det, room, ctl, dat, acs⟩ := u
 unfold suC
 have HX0 := Lib.hid (Bl.new w #[.int .i64 t.n, .slice A1 t.ov.length k1, .slice A2 t.ls.length k2, .int .i64 h1, .int .i64 h2, .int .i64 h3, .int .i64 g, .int .i64 s, .int .i64 det, .int .i64 room, .slice C ctl.length k3, .slice D dat.length k4, .slice S acs.length k5] 61)
 have hac : ¬ (65536 : Int) < (acs.length : Int) := by have : acs.length ≤ 1000 := hs; omega
 have hls : t.ls.length ≤ 1000 := hl
 go_enter Tryz.func23, Tryz.ntmps23
 go_upto_region 1 with fail
 refine wp_named4 (fun Y => ∃ b, b = w.heap.size ∧ Bl 61 b #[.int .i64 t.n, .slice A1 t.ov.length k1, .slice A2 t.ls.length k2, .int .i64 h1, .int .i64 h2, .int .i64 h3, .int .i64 g, .int .i64 s, .int .i64 det, .int .i64 room, .slice C ctl.length k3, .slice D dat.length k4, .slice S acs.length k5] Y ∧ Below w.heap.size w Y ∧ SuAt Y A1 A2 C D S ⟨t, h1, h2, h3, g, s, det, room, ctl, dat, acs⟩) ⟨_, rfl, HX0.out, below_box _ _, HU.out.below (below_box _ _)⟩ ?_
 rintro Y ⟨b, hb0, hY1, hY2, hY3⟩
 rw [← hb0]
 have HX := Lib.hid hY1
 have HB := Lib.hid hY2
 have HU := Lib.hid hY3
 obtain ⟨b0, b1, b2, b3, b4, b5, b6, b7, b8, b9, b10, b11, b12, fb⟩ := hY1.c13
 clear hb0 hY1 hY2 hY3 HX0
 cases hv : valid t with
 | false =>
  have HV := Lib.hid hv
  clear hv
  have HRF : Hid (R = false) := Lib.hid (by rw [HR.out]; simp [suOk, HV.out])
  go_wp2_with (go_at_call 16; with_reducible refine (ref09_Valid t A1 A2 k1 k2 _ HU.out.t.ls).mono ?_; rw [HV.out]; rintro e w5 ⟨rfl, hb⟩; replace HX := Lib.hid (HX.out.up hb); replace HB := Lib.hid (below_next HB.out hb); replace HU := Lib.hid (HU.out.below hb); clear hb b0 b1 b2 b3 b4 b5 b6 b7 b8 b9 b10 b11 b12 fb; obtain ⟨b0, b1, b2, b3, b4, b5, b6, b7, b8, b9, b10, b11, b12, fb⟩ := HX.out.c13)
  go_ret
  exact ⟨by rw [HRF.out]; rfl, HB.out⟩
 | true =>
  have HV := Lib.hid hv
  clear hv
  by_cases q0 : det < 0
  ·skip
   have HRF : Hid (R = false) := Lib.hid (by rw [HR.out]; have hf : inR det 0 65536 = false := inR_false.2 (by omega); simp [suOk, hf])
   go_wp2_with (go_at_call 16; with_reducible refine (ref09_Valid t A1 A2 k1 k2 _ HU.out.t.ls).mono ?_; rw [HV.out]; rintro e w5 ⟨rfl, hb⟩; replace HX := Lib.hid (HX.out.up hb); replace HB := Lib.hid (below_next HB.out hb); replace HU := Lib.hid (HU.out.below hb); clear hb b0 b1 b2 b3 b4 b5 b6 b7 b8 b9 b10 b11 b12 fb; obtain ⟨b0, b1, b2, b3, b4, b5, b6, b7, b8, b9, b10, b11, b12, fb⟩ := HX.out.c13)
   go_ret
   exact ⟨by rw [HRF.out]; rfl, HB.out⟩
  by_cases q1 : 65536 < det
  ·skip
   have HRF : Hid (R = false) := Lib.hid (by rw [HR.out]; have hf : inR det 0 65536 = false := inR_false.2 (by omega); simp [suOk, hf])
   go_wp2_with (go_at_call 16; with_reducible refine (ref09_Valid t A1 A2 k1 k2 _ HU.out.t.ls).mono ?_; rw [HV.out]; rintro e w5 ⟨rfl, hb⟩; replace HX := Lib.hid (HX.out.up hb); replace HB := Lib.hid (below_next HB.out hb); replace HU := Lib.hid (HU.out.below hb); clear hb b0 b1 b2 b3 b4 b5 b6 b7 b8 b9 b10 b11 b12 fb; obtain ⟨b0, b1, b2, b3, b4, b5, b6, b7, b8, b9, b10, b11, b12, fb⟩ := HX.out.c13)
   go_ret
   exact ⟨by rw [HRF.out]; rfl, HB.out⟩
  by_cases q2 : room < 0
  ·skip
   have HRF : Hid (R = false) := Lib.hid (by rw [HR.out]; have hf : inR room 0 65536 = false := inR_false.2 (by omega); simp [suOk, hf])
   go_wp2_with (go_at_call 16; with_reducible refine (ref09_Valid t A1 A2 k1 k2 _ HU.out.t.ls).mono ?_; rw [HV.out]; rintro e w5 ⟨rfl, hb⟩; replace HX := Lib.hid (HX.out.up hb); replace HB := Lib.hid (below_next HB.out hb); replace HU := Lib.hid (HU.out.below hb); clear hb b0 b1 b2 b3 b4 b5 b6 b7 b8 b9 b10 b11 b12 fb; obtain ⟨b0, b1, b2, b3, b4, b5, b6, b7, b8, b9, b10, b11, b12, fb⟩ := HX.out.c13)
   go_ret
   exact ⟨by rw [HRF.out]; rfl, HB.out⟩
  by_cases q3 : 65536 < room
  ·skip
   have HRF : Hid (R = false) := Lib.hid (by rw [HR.out]; have hf : inR room 0 65536 = false := inR_false.2 (by omega); simp [suOk, hf])
   go_wp2_with (go_at_call 16; with_reducible refine (ref09_Valid t A1 A2 k1 k2 _ HU.out.t.ls).mono ?_; rw [HV.out]; rintro e w5 ⟨rfl, hb⟩; replace HX := Lib.hid (HX.out.up hb); replace HB := Lib.hid (below_next HB.out hb); replace HU := Lib.hid (HU.out.below hb); clear hb b0 b1 b2 b3 b4 b5 b6 b7 b8 b9 b10 b11 b12 fb; obtain ⟨b0, b1, b2, b3, b4, b5, b6, b7, b8, b9, b10, b11, b12, fb⟩ := HX.out.c13)
   go_ret
   exact ⟨by rw [HRF.out]; rfl, HB.out⟩
  go_upto_region 3 with (go_at_call 16; with_reducible refine (ref09_Valid t A1 A2 k1 k2 _ HU.out.t.ls).mono ?_; rw [HV.out]; rintro e w5 ⟨rfl, hb⟩; replace HX := Lib.hid (HX.out.up hb); replace HB := Lib.hid (below_next HB.out hb); replace HU := Lib.hid (HU.out.below hb); clear hb b0 b1 b2 b3 b4 b5 b6 b7 b8 b9 b10 b11 b12 fb; obtain ⟨b0, b1, b2, b3, b4, b5, b6, b7, b8, b9, b10, b11, b12, fb⟩ := HX.out.c13)
  have hdr : Hid (inR det 0 65536 = true ∧ inR room 0 65536 = true) := Lib.hid ⟨inR_true.2 (by omega), inR_true.2 (by omega)⟩
  have HDR := hdr
  clear hdr q0 q1 q2 q3
  refine wp_named4 (fun Y => Bl 61 b #[.int .i64 t.n, .slice A1 t.ov.length k1, .slice A2 t.ls.length k2, .int .i64 h1, .int .i64 h2, .int .i64 h3, .int .i64 g, .int .i64 s, .int .i64 det, .int .i64 room, .slice C ctl.length k3, .slice D dat.length k4, .slice S acs.length k5] Y ∧ Below w.heap.size w Y ∧ SuAt Y A1 A2 C D S ⟨t, h1, h2, h3, g, s, det, room, ctl, dat, acs⟩) ⟨HX.out, HB.out, HU.out⟩ ?_
  rintro W1 ⟨hY1, hY2, hY3⟩
  replace HX := Lib.hid hY1
  replace HB := Lib.hid hY2
  replace HU := Lib.hid hY3
  clear b0 b1 b2 b3 b4 b5 b6 b7 b8 b9 b10 b11 b12 fb
  obtain ⟨b0, b1, b2, b3, b4, b5, b6, b7, b8, b9, b10, b11, b12, fb⟩ := hY1.c13
  clear hY1 hY2 hY3
  obtain ⟨xs, hxs⟩ : ∃ xs, xs = [h1, h2, h3, g, s] := ⟨_, rfl⟩
  have HXL : Hid (xs.length = 5) := Lib.hid (by rw [hxs]; rfl)
  have HXS := Lib.hid hxs
  clear hxs
  have HXC : Hid (∀ (wx : World), Below W1.heap.size W1 wx → ∀ (q : Nat) (x : Int), xs[q]? = some x → wx.cell? ⟨b, 3 + q, none⟩ = some (.int .i64 x)) := Lib.hid fun wx hb q x hx => tm_at (HX.out.up hb) (by rw [← HXS.out]; exact hx)
  clear b0 b1 b2 b3 b4 b5 b6 b7 b8 b9 b10 b11 b12
  go_wp2_with fail
  go_loopg [3] 5 (fun gg i wx => ∃ q : Nat, q + gg = 5 ∧ i = .int .i64 q ∧ Hid (∀ j x, j < q → xs[j]? = some x → inR x 1 65536 = true) ∧ Hid (Below W1.heap.size W1 wx))
  case atStart => exact ⟨0, rfl, rfl, Lib.hid (fun j x hj => absurd hj (by omega)), Lib.hid (Below.refl _ _)⟩
  case round =>
   obtain ⟨q, hq, rfl, HOK, HW⟩ := hrel
   by_cases hlt : q < 5
   ·have hlt' : (q : Int) < 5 := by omega
    obtain ⟨x, hx⟩ : ∃ x, xs[q]? = some x := ⟨_, List.getElem?_eq_getElem (by have := HXL.out; omega)⟩
    have cy := HXC.out wr HW.out q x hx
    have HXx := Lib.hid hx
    clear hx
    by_cases hx1 : x < 1
    ·go_wp2_with fail
     exact bodyPost_ret (v := .bool false) (by simp [results, Tryz.results23, go_sem]) rfl ⟨by rw [HR.out]; simp [suOk, ← HXS.out, tms_bad HXx.out (show inR x 1 65536 = false by simp [inR]; omega)], HB.out.trans (HW.out.mono HB.out.size)⟩
    ·by_cases hx2 : 65536 < x
     ·go_wp2_with fail
      exact bodyPost_ret (v := .bool false) (by simp [results, Tryz.results23, go_sem]) rfl ⟨by rw [HR.out]; simp [suOk, ← HXS.out, tms_bad HXx.out (show inR x 1 65536 = false by simp [inR]; omega)], HB.out.trans (HW.out.mono HB.out.size)⟩
     ·go_wp2_with fail
      go_roundg (gk - 1)
      case measure => omega
      case rel =>
       refine ⟨q + 1, by omega, by go_num, Lib.hid (fun j y hj hy => ?_), HW⟩
       by_cases hjq : j = q
       ·subst hjq
        rw [HXx.out] at hy
        injection hy with hy
        subst hy
        simp [inR]; omega
       ·exact HOK.out j y (by omega) hy
   ·obtain rfl : q = 5 := by omega
    have HTM : Hid (tmsOk [h1, h2, h3, g, s] = true) := Lib.hid (by
     rw [← HXS.out]
     refine List.all_eq_true.2 (fun y hy => ?_)
     obtain ⟨j, hj, rfl⟩ := List.getElem_of_mem hy
     exact HOK.out j _ (by have := HXL.out; omega) (List.getElem?_eq_getElem hj))
    replace HX := Lib.hid (HX.out.up HW.out)
    replace HU := Lib.hid (HU.out.below HW.out)
    replace HB := Lib.hid (below_next HB.out HW.out)
    clear HOK HXC HXS HXL HW hlt hq fb
    go_wp2_with fail
    refine wp_named4 (fun Y => Bl 61 b #[.int .i64 t.n, .slice A1 t.ov.length k1, .slice A2 t.ls.length k2, .int .i64 h1, .int .i64 h2, .int .i64 h3, .int .i64 g, .int .i64 s, .int .i64 det, .int .i64 room, .slice C ctl.length k3, .slice D dat.length k4, .slice S acs.length k5] Y ∧ Below w.heap.size w Y ∧ SuAt Y A1 A2 C D S ⟨t, h1, h2, h3, g, s, det, room, ctl, dat, acs⟩) ⟨HX.out, HB.out, HU.out⟩ ?_
    rintro W2 ⟨hY1, hY2, hY3⟩
    replace HX := Lib.hid hY1
    replace HB := Lib.hid hY2
    replace HU := Lib.hid hY3
    obtain ⟨b0, b1, b2, b3, b4, b5, b6, b7, b8, b9, b10, b11, b12, fb⟩ := hY1.c13
    clear hY1 hY2 hY3
    go_loopg [4] acs.length (fun gg i wx => ∃ q : Nat, q + gg = acs.length ∧ i = .int .i64 q ∧ Hid (∀ j, j < q → AcR t acs j) ∧ Hid (Below W2.heap.size W2 wx))
    case atStart => exact ⟨0, by omega, rfl, Lib.hid (fun j hj => absurd hj (by omega)), Lib.hid (Below.refl _ _)⟩
    case round =>
     obtain ⟨q, hq, rfl, HOK, HW⟩ := hrel
     have HXW := Lib.hid (HX.out.up HW.out)
     have HUW := Lib.hid (HU.out.below HW.out)
     have HBW := Lib.hid (below_next HB.out HW.out)
     clear b0 b1 b2 b3 b4 b5 b6 b7 b8 b9 b10 b11 b12 fb
     obtain ⟨b0, b1, b2, b3, b4, b5, b6, b7, b8, b9, b10, b11, b12, fb⟩ := HXW.out.c13
     by_cases hlt : q < acs.length
     ·have hlt' : (q : Int) < (acs.length : Int) := by omega
      obtain ⟨a, hx⟩ : ∃ a, acs[q]? = some a := ⟨_, List.getElem?_eq_getElem hlt⟩
      obtain ⟨bz, oz, rfl, hcs⟩ := act_at HUW.out.s hx
      have HXx := Lib.hid hx
      have HSN := Lib.hid (HK.out a (List.mem_of_getElem? hx))
      clear hx
      obtain ⟨a0, a1, a2, a3, a4, a5, a6, a7, a8, a9, a10, a11, a12, a13⟩ := ac_cells hcs
      have HCS := Lib.hid hcs
      clear hcs
      go_upto_region 12 with fail
      refine wp_named4 (fun Y => (∃ sb, sb = wr.heap.size ∧ Bl 130 sb #[.int .i64 a.time, .int .i64 a.kind, .int .i64 a.id, .int .i64 a.src, .int .i64 a.dst, .int .i64 a.p3, .slice a.st a.sn a.sc, .int .i64 a.p5, .int .i64 a.ck, .int .i64 a.cm, .int .i64 a.node, .bool a.on, .int .i64 a.arc, .int .i64 a.cost] Y) ∧ Bl 61 b #[.int .i64 t.n, .slice A1 t.ov.length k1, .slice A2 t.ls.length k2, .int .i64 h1, .int .i64 h2, .int .i64 h3, .int .i64 g, .int .i64 s, .int .i64 det, .int .i64 room, .slice C ctl.length k3, .slice D dat.length k4, .slice (some ⟨bz, oz, none⟩) acs.length k5] Y ∧ SuAt Y A1 A2 C D (some ⟨bz, oz, none⟩) ⟨t, h1, h2, h3, g, s, det, room, ctl, dat, acs⟩ ∧ Below w.heap.size w Y ∧ Below W2.heap.size W2 Y) ⟨⟨_, rfl, Bl.new _ _ _⟩, HXW.out.up (below_box _ _), HUW.out.below (below_box _ _), below_next HBW.out (below_box _ _), below_next HW.out (below_box _ _)⟩ ?_
      rintro Y2 ⟨⟨sb, hsb, hY0⟩, hY1, hY2, hY3, hY4⟩
      rw [← hsb]
      clear hsb b0 b1 b2 b3 b4 b5 b6 b7 b8 b9 b10 b11 b12 fb a0 a1 a2 a3 a4 a5 a6 a7 a8 a9 a10 a11 a12 a13
      obtain ⟨b0, b1, b2, -, -, -, -, -, -, -, -, -, b12, -⟩ := hY1.c13
      obtain ⟨s0, s1, s2, s3, s4, s5, s6, s7, s8, s9, s10, s11, s12, s13, -⟩ := hY0.c14
      have HUW := Lib.hid hY2
      have HBY := Lib.hid hY3
      have HWY := Lib.hid hY4
      clear hY0 hY1 hY2 hY3 hY4 HXW HBW HW
      have HCA : Hid (∀ d os, Calls Tryz.prog 63 #[.agg #[.int .i64 t.n, .slice A1 t.ov.length k1, .slice A2 t.ls.length k2], .agg #[.int .i64 a.time, .int .i64 a.kind, .int .i64 a.id, .int .i64 a.src, .int .i64 a.dst, .int .i64 a.p3, .slice a.st a.sn a.sc, .int .i64 a.p5, .int .i64 a.ck, .int .i64 a.cm, .int .i64 a.node, .bool a.on, .int .i64 a.arc, .int .i64 a.cost]] (grow (redrawn Y2 d) os) fun e w'' => e = .returned (.bool (acOk t a)) ∧ ∃ p : Regrown, w'' = grow (redrawn Y2 p.d) p.os) := Lib.hid fun d os => Calls.regrown_of (ref54_act t A1 A2 k1 k2 a (HUW.out.t.below (below_regrown Y2 d os)) (by omega) (by have := HSN.out; omega))
      have bad : Hid (¬ AcR t acs q → R = false) := Lib.hid fun h => by
       rw [HR.out]
       cases hc : acsOk t 1 acs with
       | false => simp [suOk, hc]
       | true => exact absurd (((acsOk_iff acs 1 (by decide)).1 hc).2 q) h
      cases hok : acOk t a with
      | false =>
       rw [hok] at HCA
       have hbad := bad.out (fun h => by have := (h a HXx.out).1; rw [hok] at this; cases this)
       have kq_b0 := cell_regrown b0
       have kq_b1 := cell_regrown b1
       have kq_b2 := cell_regrown b2
       have kq_b12 := cell_regrown b12
       have kq_s0 := cell_regrown s0
       have kq_s1 := cell_regrown s1
       have kq_s2 := cell_regrown s2
       have kq_s3 := cell_regrown s3
       have kq_s4 := cell_regrown s4
       have kq_s5 := cell_regrown s5
       have kq_s6 := cell_regrown s6
       have kq_s7 := cell_regrown s7
       have kq_s8 := cell_regrown s8
       have kq_s9 := cell_regrown s9
       have kq_s10 := cell_regrown s10
       have kq_s11 := cell_regrown s11
       have kq_s12 := cell_regrown s12
       have kq_s13 := cell_regrown s13
       refine wp_region_quiet_below (by kernel_rfl) (by kernel_rfl) ?_
       repeat (go_big_quiet_step (with_reducible exact HCA.out _ _))
       refine wpQuiet_nil ?_
       intro w2 hb2
       replace hb2 := below_of_regrown hb2
       clear kq_b0 kq_b1 kq_b2 kq_b12 kq_s0 kq_s1 kq_s2 kq_s3 kq_s4 kq_s5 kq_s6 kq_s7 kq_s8 kq_s9 kq_s10 kq_s11 kq_s12 kq_s13
       replace b0 := cell_up hb2 b0
       replace b1 := cell_up hb2 b1
       replace b2 := cell_up hb2 b2
       replace b12 := cell_up hb2 b12
       replace s0 := cell_up hb2 s0
       replace s1 := cell_up hb2 s1
       replace s2 := cell_up hb2 s2
       replace s3 := cell_up hb2 s3
       replace s4 := cell_up hb2 s4
       replace s5 := cell_up hb2 s5
       replace s6 := cell_up hb2 s6
       replace s7 := cell_up hb2 s7
       replace s8 := cell_up hb2 s8
       replace s9 := cell_up hb2 s9
       replace s10 := cell_up hb2 s10
       replace s11 := cell_up hb2 s11
       replace s12 := cell_up hb2 s12
       replace s13 := cell_up hb2 s13
       replace HBY := below_next HBY hb2
       go_wp2_with fail
       exact bodyPost_ret (v := .bool false) (by simp [results, Tryz.results23, go_sem]) rfl ⟨by first | rfl | rw [hbad], HBY⟩
      | true =>
       rw [hok] at HCA
       by_cases q1 : a.time < 1
       ·have e1 : decide (a.time < 1) = true := decide_eq_true q1
        have hbad := bad.out (fun h => by have := (h a HXx.out).2.1; omega)
        have kq_b0 := cell_regrown b0
        have kq_b1 := cell_regrown b1
        have kq_b2 := cell_regrown b2
        have kq_b12 := cell_regrown b12
        have kq_s0 := cell_regrown s0
        have kq_s1 := cell_regrown s1
        have kq_s2 := cell_regrown s2
        have kq_s3 := cell_regrown s3
        have kq_s4 := cell_regrown s4
        have kq_s5 := cell_regrown s5
        have kq_s6 := cell_regrown s6
        have kq_s7 := cell_regrown s7
        have kq_s8 := cell_regrown s8
        have kq_s9 := cell_regrown s9
        have kq_s10 := cell_regrown s10
        have kq_s11 := cell_regrown s11
        have kq_s12 := cell_regrown s12
        have kq_s13 := cell_regrown s13
        refine wp_region_quiet_below (by kernel_rfl) (by kernel_rfl) ?_
        repeat (go_big_quiet_step (with_reducible exact HCA.out _ _))
        refine wpQuiet_nil ?_
        intro w2 hb2
        replace hb2 := below_of_regrown hb2
        clear kq_b0 kq_b1 kq_b2 kq_b12 kq_s0 kq_s1 kq_s2 kq_s3 kq_s4 kq_s5 kq_s6 kq_s7 kq_s8 kq_s9 kq_s10 kq_s11 kq_s12 kq_s13
        replace b0 := cell_up hb2 b0
        replace b1 := cell_up hb2 b1
        replace b2 := cell_up hb2 b2
        replace b12 := cell_up hb2 b12
        replace s0 := cell_up hb2 s0
        replace s1 := cell_up hb2 s1
        replace s2 := cell_up hb2 s2
        replace s3 := cell_up hb2 s3
        replace s4 := cell_up hb2 s4
        replace s5 := cell_up hb2 s5
        replace s6 := cell_up hb2 s6
        replace s7 := cell_up hb2 s7
        replace s8 := cell_up hb2 s8
        replace s9 := cell_up hb2 s9
        replace s10 := cell_up hb2 s10
        replace s11 := cell_up hb2 s11
        replace s12 := cell_up hb2 s12
        replace s13 := cell_up hb2 s13
        replace HBY := below_next HBY hb2
        go_wp2_with fail
        exact bodyPost_ret (v := .bool false) (by simp [results, Tryz.results23, go_sem]) rfl ⟨by first | rfl | rw [hbad], HBY⟩
       have e1 : decide (a.time < 1) = false := decide_eq_false q1
       by_cases q2 : 1073741824 < a.time
       ·have e2 : decide (1073741824 < a.time) = true := decide_eq_true q2
        have hbad := bad.out (fun h => by have := (h a HXx.out).2.2.1; omega)
        have kq_b0 := cell_regrown b0
        have kq_b1 := cell_regrown b1
        have kq_b2 := cell_regrown b2
        have kq_b12 := cell_regrown b12
        have kq_s0 := cell_regrown s0
        have kq_s1 := cell_regrown s1
        have kq_s2 := cell_regrown s2
        have kq_s3 := cell_regrown s3
        have kq_s4 := cell_regrown s4
        have kq_s5 := cell_regrown s5
        have kq_s6 := cell_regrown s6
        have kq_s7 := cell_regrown s7
        have kq_s8 := cell_regrown s8
        have kq_s9 := cell_regrown s9
        have kq_s10 := cell_regrown s10
        have kq_s11 := cell_regrown s11
        have kq_s12 := cell_regrown s12
        have kq_s13 := cell_regrown s13
        refine wp_region_quiet_below (by kernel_rfl) (by kernel_rfl) ?_
        repeat (go_big_quiet_step (with_reducible exact HCA.out _ _))
        refine wpQuiet_nil ?_
        intro w2 hb2
        replace hb2 := below_of_regrown hb2
        clear kq_b0 kq_b1 kq_b2 kq_b12 kq_s0 kq_s1 kq_s2 kq_s3 kq_s4 kq_s5 kq_s6 kq_s7 kq_s8 kq_s9 kq_s10 kq_s11 kq_s12 kq_s13
        replace b0 := cell_up hb2 b0
        replace b1 := cell_up hb2 b1
        replace b2 := cell_up hb2 b2
        replace b12 := cell_up hb2 b12
        replace s0 := cell_up hb2 s0
        replace s1 := cell_up hb2 s1
        replace s2 := cell_up hb2 s2
        replace s3 := cell_up hb2 s3
        replace s4 := cell_up hb2 s4
        replace s5 := cell_up hb2 s5
        replace s6 := cell_up hb2 s6
        replace s7 := cell_up hb2 s7
        replace s8 := cell_up hb2 s8
        replace s9 := cell_up hb2 s9
        replace s10 := cell_up hb2 s10
        replace s11 := cell_up hb2 s11
        replace s12 := cell_up hb2 s12
        replace s13 := cell_up hb2 s13
        replace HBY := below_next HBY hb2
        go_wp2_with fail
        exact bodyPost_ret (v := .bool false) (by simp [results, Tryz.results23, go_sem]) rfl ⟨by first | rfl | rw [hbad], HBY⟩
       have e2 : decide (1073741824 < a.time) = false := decide_eq_false q2
       cases q with
       | zero =>
        have kq_b0 := cell_regrown b0
        have kq_b1 := cell_regrown b1
        have kq_b2 := cell_regrown b2
        have kq_b12 := cell_regrown b12
        have kq_s0 := cell_regrown s0
        have kq_s1 := cell_regrown s1
        have kq_s2 := cell_regrown s2
        have kq_s3 := cell_regrown s3
        have kq_s4 := cell_regrown s4
        have kq_s5 := cell_regrown s5
        have kq_s6 := cell_regrown s6
        have kq_s7 := cell_regrown s7
        have kq_s8 := cell_regrown s8
        have kq_s9 := cell_regrown s9
        have kq_s10 := cell_regrown s10
        have kq_s11 := cell_regrown s11
        have kq_s12 := cell_regrown s12
        have kq_s13 := cell_regrown s13
        refine wp_region_quiet_below (by kernel_rfl) (by kernel_rfl) ?_
        repeat (go_big_quiet_step (with_reducible exact HCA.out _ _))
        refine wpQuiet_nil ?_
        intro w2 hb2
        replace hb2 := below_of_regrown hb2
        clear kq_b0 kq_b1 kq_b2 kq_b12 kq_s0 kq_s1 kq_s2 kq_s3 kq_s4 kq_s5 kq_s6 kq_s7 kq_s8 kq_s9 kq_s10 kq_s11 kq_s12 kq_s13
        replace b0 := cell_up hb2 b0
        replace b1 := cell_up hb2 b1
        replace b2 := cell_up hb2 b2
        replace b12 := cell_up hb2 b12
        replace s0 := cell_up hb2 s0
        replace s1 := cell_up hb2 s1
        replace s2 := cell_up hb2 s2
        replace s3 := cell_up hb2 s3
        replace s4 := cell_up hb2 s4
        replace s5 := cell_up hb2 s5
        replace s6 := cell_up hb2 s6
        replace s7 := cell_up hb2 s7
        replace s8 := cell_up hb2 s8
        replace s9 := cell_up hb2 s9
        replace s10 := cell_up hb2 s10
        replace s11 := cell_up hb2 s11
        replace s12 := cell_up hb2 s12
        replace s13 := cell_up hb2 s13
        replace HBY := below_next HBY hb2
        replace HWY := Lib.hid (below_next HWY.out hb2)
        go_wp2_with fail
        go_roundg (gk - 1)
        case measure => omega
        case rel =>
         refine ⟨1, by omega, by go_num, Lib.hid (fun j hj => ?_), HWY⟩
         obtain rfl : j = 0 := by omega
         intro c hcc
         rw [HXx.out] at hcc
         injection hcc with hcc
         subst hcc
         exact ⟨hok, by omega, by omega, fun j b hj => by omega⟩
       | succ q =>
        obtain ⟨c, hcx⟩ : ∃ c, acs[q]? = some c := ⟨_, List.getElem?_eq_getElem (by omega)⟩
        obtain ⟨bz2, oz2, ebz, hcc⟩ := act_at HUW.out.s hcx
        injection ebz with ebz
        injection ebz with ebz1 ebz2 _
        subst ebz1 ebz2
        have p0 : Y2.cell? ⟨bz, oz + q * 14, none⟩ = some (.int .i64 c.time) := hcc 0 _ rfl
        have HCX := Lib.hid hcx
        clear hcc hcx
        have hqi : ((q + 1 : Nat) : Int) - 1 = (q : Int) := by omega
        have hq0 : decide ((0 : Int) < ((q + 1 : Nat) : Int)) = true := decide_eq_true (by omega)
        by_cases q3 : a.time < c.time
        ·have e3 : decide (a.time < c.time) = true := decide_eq_true q3
         have hbad := bad.out (fun h => by have := (h a HXx.out).2.2.2 q c rfl HCX.out; omega)
         have kq_b0 := cell_regrown b0
         have kq_b1 := cell_regrown b1
         have kq_b2 := cell_regrown b2
         have kq_b12 := cell_regrown b12
         have kq_p0 := cell_regrown p0
         have kq_s0 := cell_regrown s0
         have kq_s1 := cell_regrown s1
         have kq_s2 := cell_regrown s2
         have kq_s3 := cell_regrown s3
         have kq_s4 := cell_regrown s4
         have kq_s5 := cell_regrown s5
         have kq_s6 := cell_regrown s6
         have kq_s7 := cell_regrown s7
         have kq_s8 := cell_regrown s8
         have kq_s9 := cell_regrown s9
         have kq_s10 := cell_regrown s10
         have kq_s11 := cell_regrown s11
         have kq_s12 := cell_regrown s12
         have kq_s13 := cell_regrown s13
         refine wp_region_quiet_below (by kernel_rfl) (by kernel_rfl) ?_
         repeat (go_big_quiet_step (with_reducible exact HCA.out _ _))
         refine wpQuiet_nil ?_
         intro w2 hb2
         replace hb2 := below_of_regrown hb2
         clear kq_b0 kq_b1 kq_b2 kq_b12 kq_p0 kq_s0 kq_s1 kq_s2 kq_s3 kq_s4 kq_s5 kq_s6 kq_s7 kq_s8 kq_s9 kq_s10 kq_s11 kq_s12 kq_s13
         replace b0 := cell_up hb2 b0
         replace b1 := cell_up hb2 b1
         replace b2 := cell_up hb2 b2
         replace b12 := cell_up hb2 b12
         replace p0 := cell_up hb2 p0
         replace s0 := cell_up hb2 s0
         replace s1 := cell_up hb2 s1
         replace s2 := cell_up hb2 s2
         replace s3 := cell_up hb2 s3
         replace s4 := cell_up hb2 s4
         replace s5 := cell_up hb2 s5
         replace s6 := cell_up hb2 s6
         replace s7 := cell_up hb2 s7
         replace s8 := cell_up hb2 s8
         replace s9 := cell_up hb2 s9
         replace s10 := cell_up hb2 s10
         replace s11 := cell_up hb2 s11
         replace s12 := cell_up hb2 s12
         replace s13 := cell_up hb2 s13
         replace HBY := below_next HBY hb2
         go_wp2_with fail
         exact bodyPost_ret (v := .bool false) (by simp [results, Tryz.results23, go_sem]) rfl ⟨by first | rfl | rw [hbad], HBY⟩
        have e3 : decide (a.time < c.time) = false := decide_eq_false q3
        have kq_b0 := cell_regrown b0
        have kq_b1 := cell_regrown b1
        have kq_b2 := cell_regrown b2
        have kq_b12 := cell_regrown b12
        have kq_p0 := cell_regrown p0
        have kq_s0 := cell_regrown s0
        have kq_s1 := cell_regrown s1
        have kq_s2 := cell_regrown s2
        have kq_s3 := cell_regrown s3
        have kq_s4 := cell_regrown s4
        have kq_s5 := cell_regrown s5
        have kq_s6 := cell_regrown s6
        have kq_s7 := cell_regrown s7
        have kq_s8 := cell_regrown s8
        have kq_s9 := cell_regrown s9
        have kq_s10 := cell_regrown s10
        have kq_s11 := cell_regrown s11
        have kq_s12 := cell_regrown s12
        have kq_s13 := cell_regrown s13
        refine wp_region_quiet_below (by kernel_rfl) (by kernel_rfl) ?_
        repeat (go_big_quiet_step (with_reducible exact HCA.out _ _))
        refine wpQuiet_nil ?_
        intro w2 hb2
        replace hb2 := below_of_regrown hb2
        clear kq_b0 kq_b1 kq_b2 kq_b12 kq_p0 kq_s0 kq_s1 kq_s2 kq_s3 kq_s4 kq_s5 kq_s6 kq_s7 kq_s8 kq_s9 kq_s10 kq_s11 kq_s12 kq_s13
        replace b0 := cell_up hb2 b0
        replace b1 := cell_up hb2 b1
        replace b2 := cell_up hb2 b2
        replace b12 := cell_up hb2 b12
        replace p0 := cell_up hb2 p0
        replace s0 := cell_up hb2 s0
        replace s1 := cell_up hb2 s1
        replace s2 := cell_up hb2 s2
        replace s3 := cell_up hb2 s3
        replace s4 := cell_up hb2 s4
        replace s5 := cell_up hb2 s5
        replace s6 := cell_up hb2 s6
        replace s7 := cell_up hb2 s7
        replace s8 := cell_up hb2 s8
        replace s9 := cell_up hb2 s9
        replace s10 := cell_up hb2 s10
        replace s11 := cell_up hb2 s11
        replace s12 := cell_up hb2 s12
        replace s13 := cell_up hb2 s13
        replace HBY := below_next HBY hb2
        replace HWY := Lib.hid (below_next HWY.out hb2)
        go_wp2_with fail
        go_roundg (gk - 1)
        case measure => omega
        case rel =>
         refine ⟨q + 2, by omega, by go_num, Lib.hid (fun j hj => ?_), HWY⟩
         by_cases hjq : j = q + 1
         ·subst hjq
          intro d hd
          rw [HXx.out] at hd
          injection hd with hd
          subst hd
          refine ⟨hok, by omega, by omega, fun i b hi hb => ?_⟩
          obtain rfl : i = q := by omega
          rw [HCX.out] at hb
          injection hb with hb
          subst hb
          omega
         ·exact HOK.out j (by omega)
     ·obtain rfl : q = acs.length := by omega
      have HAO : Hid (acsOk t 1 acs = true) := Lib.hid ((acsOk_iff acs 1 (by decide)).2 ⟨fun a ha => by
       have hne : 0 < acs.length := (List.getElem?_eq_some_iff.1 ha).1
       exact (HOK.out 0 hne a ha).2.1, fun k a ha => HOK.out k (List.getElem?_eq_some_iff.1 ha).1 a ha⟩)
      have HRE : Hid (R = ((ftOk ctl && decide ((ctl.length : Int) ≤ 2 * (t.ls.length : Int))) && (ftOk dat && decide ((dat.length : Int) ≤ 2 * (t.ls.length : Int))))) := Lib.hid (by
       have hac' : acs.length ≤ 65536 := by omega
       rw [HR.out]
       simp [suOk, HV.out, HDR.out.1, HDR.out.2, HTM.out, HAO.out, hac'])
      clear hlt HR HOK HAO HTM HDR
      obtain ⟨v1, hv1⟩ : ∃ v, v = (ftOk ctl && decide ((ctl.length : Int) ≤ 2 * (t.ls.length : Int))) := ⟨_, rfl⟩
      obtain ⟨v2, hv2⟩ : ∃ v, v = (ftOk dat && decide ((dat.length : Int) ≤ 2 * (t.ls.length : Int))) := ⟨_, rfl⟩
      rw [← hv1, ← hv2] at HRE
      have HV1 := Lib.hid hv1
      have HV2 := Lib.hid hv2
      clear hv1 hv2
      cases v1 with
      | false =>
       have hbad : R = false := by rw [HRE.out]; rfl
       clear HRE
       subst hbad
       go_wp2_with (go_at_call 64; with_reducible refine (ref54_fates _ _ _ ctl HUW.out.c (by omega)).mono ?_; rw [← HV1.out]; rintro e w7 ⟨rfl, hb⟩; have HB7 := Lib.hid (below_next HBW.out hb); clear hb)
       exact bodyPost_ret (v := .bool false) (by simp [results, Tryz.results23, go_sem]) rfl ⟨rfl, HB7.out⟩
      | true =>
       have hbad : R = v2 := by rw [HRE.out]; rfl
       clear HRE
       subst hbad
       go_wp2_with first | (go_at_call 64; with_reducible refine (ref54_fates _ _ _ ctl HUW.out.c (by omega)).mono ?_; rw [← HV1.out]; rintro e w7 ⟨rfl, hb⟩; have HXZ := Lib.hid (HXW.out.up hb); have HUZ := Lib.hid (HUW.out.below hb); have HB7 := Lib.hid (below_next HBW.out hb); clear hb; obtain ⟨y0, y1, y2, y3, y4, y5, y6, y7, y8, y9, y10, y11, y12, fy⟩ := HXZ.out.c13) | (go_at_call 64; with_reducible refine (ref54_fates _ _ _ dat HUZ.out.d (by omega)).mono ?_; rw [← HV2.out]; rintro e w8 ⟨rfl, hb⟩; have HB8 := Lib.hid (below_next HB7.out hb); clear hb)
       exact bodyPost_ret (v := .bool R) (by simp [results, Tryz.results23, go_sem]) rfl ⟨rfl, HB8.out⟩
end
end Go.Proofs.YtenhliibmcmnbaaGreat
