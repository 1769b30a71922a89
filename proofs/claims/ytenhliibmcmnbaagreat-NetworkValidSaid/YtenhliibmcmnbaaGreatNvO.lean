/-
  waypointlaw54.fates: lists of fates, copied.
-/
import Derived.Test.YtenhliibmcmnbaaGreatPkNvK
namespace Go.Proofs.YtenhliibmcmnbaaGreat
set_option linter.unusedSimpArgs false
set_option linter.unusedVariables false
open Go.RowKit Go.Sort
theorem info_FateS : (Tryz.prog.info? 121).map (fun i => (i.zero, i.size, i.bytes)) = some (some (Value.slice none 0 0), 1, 24) := by kernel_rfl
/-- Lists of fates of one's own: the row and each of its lists. -/
structure FtOw (B : Nat) (v : Value) (L : List FtL) (W : World) : Prop where
 row : W.ownsRow B 121 1 v L.length (L.map ftV)
 each : ∀ x ∈ L, W.ownsRow B 220 2 (ftV x) x.2.2.length (x.2.2.flatMap fateV)
theorem FtOw.up {B : Nat} {v : Value} {L : List FtL} {W W' : World} (h : FtOw B v L W) (hb : Below W.heap.size W W') : FtOw B v L W' :=
 ⟨own_up h.row hb, fun x hx => own_up (h.each x hx) hb⟩
theorem FtOw.at_ {B : Nat} {v : Value} {L : List FtL} {W : World} (h : FtOw B v L W) (h20 : ∀ x ∈ L, x.2.2.length ≤ 1000000) : ∃ A c, v = .slice A L.length c ∧ FtAt W A L := by
 obtain ⟨A, c, rfl, _, _, hr⟩ := rd_of_ownK h.row
 refine ⟨A, c, rfl, hr, fun x hx => ⟨?_, h20 x hx⟩⟩
 obtain ⟨A2, c2, e, _, _, hr2⟩ := rd_of_ownK (h.each x hx)
 injection e with e _ _
 rw [e]
 exact hr2
/-- What waypointlaw54.fates answers: the same fates, in memory of its own. -/
def RetFt (w : World) (L : List FtL) (e : Ending) (w' : World) : Prop :=
 ∃ v L', e = .returned v ∧ L'.map (·.2.2) = L.map (·.2.2) ∧ FtOw w.heap.size v L' w' ∧ Below w.heap.size w w'
section
variable {w : World}
set_option maxRecDepth 100000 in
set_option maxHeartbeats 4000000 in
theorem law_fates (A : Option Addr) (c : Nat) (L : List FtL) (hA : FtAt w A L) (hl : L.length ≤ 600) (h20 : ∀ x ∈ L, x.2.2.length ≤ 20) :
  Calls Tryz.prog 62 #[.slice A L.length c] w (RetFt w L) := by
 obtain ⟨oi, hoi, hoz0, hoz1, hoz2⟩ := info_parts info_FateS
 obtain ⟨fi, hfi, hfz0, hfz1, hfz2⟩ := info_parts info_Fate
 have HA := Lib.hid hA
 have H20 := Lib.hid h20
 clear hA h20
 go_enter Tryz.func62, Tryz.ntmps62
 go_wp2_with fail
 go_loopg [3, 4] L.length (fun gg out i wx => ∃ (q : Nat) (L' : List FtL), q + gg = L.length ∧ i = .int .i64 q ∧ L'.length = q ∧ Hid (L'.map (·.2.2) = (L.take q).map (·.2.2)) ∧ Hid (FtOw w.heap.size out L' wx) ∧ Hid (Below w.heap.size w wx))
 case atStart => exact ⟨0, [], by omega, rfl, rfl, Lib.hid rfl, Lib.hid ⟨World.ownsRow_nil _ _ _ _, fun x hx => by cases hx⟩, Lib.hid (Below.refl _ _)⟩
 case round =>
  obtain ⟨q, L', hq, rfl, hLq, HMP, HOW, HW⟩ := hrel
  by_cases hlt : q < L.length
  ·have hlt' : (q : Int) < (L.length : Int) := by omega
   obtain ⟨x, hx⟩ : ∃ x, L[q]? = some x := ⟨_, List.getElem?_eq_getElem hlt⟩
   have HAW := Lib.hid (HA.out.below HW.out)
   obtain ⟨bz, oz, rfl, cf⟩ := HAW.out.at_ hx
   obtain ⟨xa, xc, fs⟩ := x
   have cf' : wr.cell? ⟨bz, oz + q, none⟩ = some (.slice xa fs.length xc) := cf
   have HXx := Lib.hid hx
   have HE := Lib.hid (HAW.out.each _ (List.mem_of_getElem? hx)).1
   have hfl : fs.length ≤ 20 := H20.out _ (List.mem_of_getElem? hx)
   have HCF := Lib.hid cf'
   obtain ⟨gq, hgq⟩ : ∃ n, n = gk := ⟨_, rfl⟩
   clear hx cf cf'
   go_wp2_with fail
   refine wp_named4 (fun Y => FtOw w.heap.size u3 L' Y ∧ Below w.heap.size w Y ∧ Y.cell? ⟨bz, oz + q, none⟩ = some (.slice xa fs.length xc) ∧ Rd Y xa (fs.flatMap fateV)) ⟨HOW.out, HW.out, HCF.out, HE.out⟩ ?_
   rintro W1 ⟨hY1, hY2, hY3, hY4⟩
   replace HOW := Lib.hid hY1
   replace HW := Lib.hid hY2
   replace HCF := Lib.hid hY3
   replace HE := Lib.hid hY4
   clear hY1 hY2 hY3 hY4 HAW
   go_loopg [5, 6] fs.length (fun gg m i wx => ∃ p : Nat, p + gg = fs.length ∧ i = .int .i64 p ∧ Hid (wx.ownsRow W1.heap.size 220 2 m p ((fs.take p).flatMap fateV)) ∧ Hid (Below W1.heap.size W1 wx))
   case atStart => exact ⟨0, by omega, rfl, Lib.hid (World.ownsRow_nil _ _ _ _), Lib.hid (Below.refl _ _)⟩
   case round =>
    obtain ⟨p, hp, rfl, HMR, HWi⟩ := hrel
    by_cases hlp : p < fs.length
    ·have hlp' : (p : Int) < (fs.length : Int) := by omega
     obtain ⟨f, hf⟩ : ∃ f, fs[p]? = some f := ⟨_, List.getElem?_eq_getElem hlp⟩
     obtain ⟨by_, oy, rfl, f0, f1⟩ := fate_at (HE.out.below HWi.out) hf
     have cz := cell_up HWi.out HCF.out
     have HF := Lib.hid hf
     have hws := HWi.out.size
     clear hf
     go_wp2_with (at_builtin; refine wpList_append_own _ rfl _ _ 121 rfl W1.heap.size 220 fi (.agg #[.int .i64 0, .int .i64 0]) 2 16 Tryz.underlying121 hfi hfz0 hfz1 hfz2 rfl (by decide) _ _ _ rfl (HMR.out.alloc _) ⟨_, 0, none⟩ 1 1 [.int .i64 f.1, .int .i64 f.2] rfl rfl ?_ ?_ ?_ ?_ ?_ ?_)
     ·exact cells_newX _ _ _
     ·intro u hu; simp at hu; rcases hu with rfl | rfl <;> rfl
     ·unfold maxLen; omega
     ·omega
     ·simp; omega
     intro v' w2 hown' hgrow _
     have hb2 : Below W1.heap.size W1 w2 := (HWi.out.alloc HWi.out.size _).grown hgrow (by simp; omega) (fun k hk => (HMR.out.lt k hk).1)
     have HB2 := Lib.hid hb2
     have HO2 := Lib.hid hown'
     clear hown' hgrow hb2 f0 f1 cz
     go_wp2_with fail
     go_roundg (gk - 1)
     case measure => omega
     case rel =>
      refine ⟨p + 1, by omega, by go_num, Lib.hid ?_, HB2⟩
      rw [List.take_add_one, HF.out, Option.toList_some, List.flatMap_append, List.flatMap_singleton]
      exact HO2.out
    ·obtain rfl : p = fs.length := by omega
     have cz := cell_up HWi.out HCF.out
     obtain ⟨mA, mc, rfl⟩ := own_slice HMR.out
     have hmr := HMR.out
     rw [List.take_length] at hmr
     have HOX := Lib.hid (HOW.out.up HWi.out)
     have HRW := Lib.hid HOX.out.row
     have HWX := Lib.hid (below_next HW.out HWi.out)
     have hws := HWX.out.size
     have hW1 := HW.out.size
     have hmr' := Lib.hid (own_mono hmr hW1)
     have hlf : ¬ ((fs.length : Int) < (fs.length : Int)) := by omega
     clear hmr HMR
     go_wp2_with (at_builtin; refine wpList_append_own _ rfl _ _ 63 rfl w.heap.size 121 oi (.slice none 0 0) 1 24 Tryz.underlying63 hoi hoz0 hoz1 hoz2 rfl (by decide) _ _ _ rfl (HRW.out.alloc _) ⟨_, 0, none⟩ 1 1 [.slice mA fs.length mc] rfl rfl ?_ ?_ ?_ ?_ ?_ ?_)
     ·rfl
     ·unfold maxLen; omega
     ·omega
     ·first | omega | (simp; omega)
     intro v' w2 hown' hgrow _
     have hbx := below_box wr (.cells #[.slice mA fs.length mc] 121)
     have HB2 := Lib.hid ((HWX.out.alloc HWX.out.size (.cells #[.slice mA fs.length mc] 121)).grown hgrow (by simp; omega) (fun k hk => (HRW.out.lt k hk).1))
     have HEA : Hid (∀ y ∈ L' ++ [((mA, mc, fs) : FtL)], w2.ownsRow w.heap.size 220 2 (ftV y) y.2.2.length (y.2.2.flatMap fateV)) := Lib.hid fun y hy => by
      rcases List.mem_append.1 hy with h | h
      ·exact own_grown (own_up (HOX.out.each y h) hbx) hgrow (own_neR (own_up (HOX.out.each y h) hbx) (own_up HRW.out hbx) (by decide))
      ·obtain rfl := List.mem_singleton.1 h
       exact own_grown (own_up hmr'.out hbx) hgrow (own_neR (own_up hmr'.out hbx) (own_up HRW.out hbx) (by decide))
     have HO2 := Lib.hid hown'
     clear hown' hgrow hbx cz
     go_wp2_with fail
     go_roundg (gq - 1)
     case measure => omega
     case rel =>
      refine ⟨q + 1, L' ++ [(mA, mc, fs)], by omega, by go_num, by simp [hLq], Lib.hid ?_, Lib.hid ⟨?_, HEA.out⟩, HB2⟩
      ·rw [List.map_append, HMP.out, List.take_add_one, HXx.out, Option.toList_some, List.map_append]; rfl
      ·rw [List.map_append, List.length_append, hLq]; exact HO2.out
  ·obtain rfl : q = L.length := by omega
   have hlf : ¬ ((L.length : Int) < (L.length : Int)) := by omega
   go_wp2_with fail
   go_ret
   exact ⟨_, L', rfl, by rw [HMP.out, List.take_length], HOW.out, HW.out⟩
end
end Go.Proofs.YtenhliibmcmnbaaGreat
