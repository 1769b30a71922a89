/-
  topology.scan as topology.read calls it.
-/
import Derived.Test.YtfbloolloifndaaDoorLoP
import Derived.Test.YtfbloolloifndaaDoorTopoP
namespace Go.Proofs.YtfbloolloifndaaDoor
set_option linter.unusedSimpArgs false
set_option linter.unusedVariables false
open Go.RowKit Go.Shelf Go.Sort

theorem scan_errs {n0 pb : Nat} {X : World} (h : ET n0 X) (hn : n0 ≤ pb) (hs : n0 ≤ X.heap.size) : ∀ w', X.grownBy w' (some pb) → Errs w' := fun w' hg =>
  h w' fun k hk => hg.block k (by omega) (fun e => by injection e; omega)
theorem len_one {l : List Int} (h : l.length = 1) : ∃ n, l = [n] := by
  match l, h with
  | [n], _ => exact ⟨n, rfl⟩
theorem len_seven {l : List Int} (h : l.length = 7) : ∃ a b c d e f g, l = [a, b, c, d, e, f, g] := by
  match l, h with
  | [a, b, c, d, e, f, g], _ => exact ⟨a, b, c, d, e, f, g, rfl⟩

section
variable {n0 B g cw qb : Nat} {ws : List (List UInt8)} {X : World}
/-- What read knows where it calls scan. -/
structure ScanAt (n0 B g cw qb pb m : Nat) (ws : List (List UInt8)) (X : World) : Prop where
  row : X.ownsRow B 9 1 (.slice (some ⟨g, 0, none⟩) ws.length cw) ws.length (ws.map strW)
  errs : ET n0 X
  ptr : ∀ k, k < m → X.cell? ⟨qb, k, none⟩ = some (.pointer (some ⟨pb, k, none⟩))
  n0p : n0 ≤ pb
  n0s : n0 ≤ X.heap.size
  gp : g ≠ pb
  qp : qb ≠ pb
  ql : qb < X.heap.size
theorem ScanAt.calls {pb m : Nat} (h : ScanAt n0 B g cw qb pb m ws X) (old : List Int) (rest : List Value) (T : TypeId) (hold : old.length = m) (hm : m ≤ 100) (hwl : ws.length ≤ 100001) (hwb : ∀ x ∈ ws, x.length ≤ 100000) (hb : X.heap[pb]? = some (.cells (ints old ++ rest).toArray T (0, 0))) :
    Calls Tryd.prog 39 #[.slice (some ⟨g, 0, none⟩) ws.length cw, .slice (some ⟨qb, 0, none⟩) m m] X (RetScan X pb old rest T (scanS ws m)) :=
  topology_scan _ cw qb pb m ws old rest T X hold hm hwl (fun x hx => Nat.le_trans (hwb x hx) (by omega)) (words_keep h.row (by simpa [Value.ownBlock] using h.gp)) (ptrs_keep h.ptr h.qp h.ql) (scan_errs h.errs h.n0p h.n0s) hb
theorem ScanAt.nodes {tb base : Nat} {t : Topo} {ov ls : Value} (h : ScanAt n0 B g cw qb tb 1 ws X) (hwl : ws.length ≤ 100001) (hwb : ∀ x ∈ ws, x.length ≤ 100000) (hR : RT tb base t ov ls X) :
    Calls Tryd.prog 39 #[.slice (some ⟨g, 0, none⟩) ws.length cw, .slice (some ⟨qb, 0, none⟩) 1 1] X fun e w' =>
      ∃ n, e = .returned (.bool (scanS ws 1).isSome) ∧ (∀ vs, scanS ws 1 = some vs → n = vs.headD 0) ∧ RT tb base { t with n := n } ov ls w' ∧ X.grownBy w' (some tb) := by
  refine (h.calls [t.n] [ov, ls] _ rfl (by decide) hwl hwb hR.st).mono ?_
  rintro e w' ⟨new, hl, rfl, hv, hb, hg⟩
  obtain ⟨n, rfl⟩ := len_one (show new.length = 1 by rw [hl]; rfl)
  exact ⟨n, rfl, fun vs hs => by rw [← hv vs hs]; rfl, hR.regrown hg hb, hg⟩
theorem ScanAt.one {nb : Nat} (h : ScanAt n0 B g cw qb nb 1 ws X) (hwl : ws.length ≤ 100001) (hwb : ∀ x ∈ ws, x.length ≤ 100000) (hN : X.heap[nb]? = some (.cells #[.int .i64 0] 3 (0, 0))) :
    Calls Tryd.prog 39 #[.slice (some ⟨g, 0, none⟩) ws.length cw, .slice (some ⟨qb, 0, none⟩) 1 1] X fun e w' =>
      ∃ n, e = .returned (.bool (scanS ws 1).isSome) ∧ (∀ vs, scanS ws 1 = some vs → vs.headD 0 = n) ∧ w'.heap[nb]? = some (.cells #[.int .i64 n] 3 (0, 0)) ∧ X.grownBy w' (some nb) := by
  refine (h.calls [0] [] _ rfl (by decide) hwl hwb hN).mono ?_
  rintro e w' ⟨new, hl, rfl, hv, hb, hg⟩
  obtain ⟨n, rfl⟩ := len_one (show new.length = 1 by rw [hl]; rfl)
  exact ⟨n, rfl, fun vs hs => by rw [← hv vs hs]; rfl, hb, hg⟩
def lkV (l : Lnk) : Array Value := #[.int .i64 l.a, .int .i64 l.b, .int .i64 l.c0, .int .i64 l.c1, .int .i64 l.cap, .int .i64 l.dl, .int .i64 l.g]
theorem ScanAt.link {lb : Nat} (h : ScanAt n0 B g cw qb lb 7 ws X) (hwl : ws.length ≤ 100001) (hwb : ∀ x ∈ ws, x.length ≤ 100000) (hN : X.heap[lb]? = some (.cells #[.int .i64 0, .int .i64 0, .int .i64 0, .int .i64 0, .int .i64 0, .int .i64 0, .int .i64 0] 45 (0, 0))) :
    Calls Tryd.prog 39 #[.slice (some ⟨g, 0, none⟩) ws.length cw, .slice (some ⟨qb, 0, none⟩) 7 7] X fun e w' =>
      ∃ l : Lnk, e = .returned (.bool (scanS ws 7).isSome) ∧ (∀ vs, scanS ws 7 = some vs → lnkOf vs = l) ∧ w'.heap[lb]? = some (.cells #[.int .i64 l.a, .int .i64 l.b, .int .i64 l.c0, .int .i64 l.c1, .int .i64 l.cap, .int .i64 l.dl, .int .i64 l.g] 45 (0, 0)) ∧ X.grownBy w' (some lb) := by
  refine (h.calls [0, 0, 0, 0, 0, 0, 0] [] _ rfl (by decide) hwl hwb hN).mono ?_
  rintro e w' ⟨new, hl, rfl, hv, hb, hg⟩
  obtain ⟨a, b, c, d, e, f, g, rfl⟩ := len_seven (show new.length = 7 by rw [hl]; rfl)
  exact ⟨⟨a, b, c, d, e, f, g⟩, rfl, fun vs hs => by rw [← hv vs hs]; rfl, hb, hg⟩
end

end Go.Proofs.YtfbloolloifndaaDoor
