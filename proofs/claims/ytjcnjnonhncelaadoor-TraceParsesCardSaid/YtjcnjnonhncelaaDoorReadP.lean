/-
  trace.read: what it returns for every line, by the kind that the line names.
-/
import Derived.Test.YtjcnjnonhncelaaDoorRd
import Derived.Test.YtjcnjnonhncelaaDoorTr
import Derived.Test.YtjcnjnonhncelaaDoorTrS
import Derived.Test.YtjcnjnonhncelaaDoorReg
namespace Go.Proofs.YtjcnjnonhncelaaDoor
open Go.RowKit Go.Sort

/-- Where reading stands: rb the reader's box with what is left behind i words; the result's box. -/
structure RS0 (w0 : World) (rb i : Nat) (s : List UInt8) (w : World) : Prop where
  rd : RdB w rb (rst s i)
  zr : w.heap[w0.heap.size]? = some (.cells #[.int .i64 0, .int .i64 0, .int .i64 0, .int .i64 0, .int .i64 0, .int .i64 0] 40 (0, 0))
  hb : Below w0.heap.size w0 w
  lt : w0.heap.size < rb
theorem RS0.sz {w0 w : World} {rb i : Nat} {s : List UInt8} (h : RS0 w0 rb i s w) : w0.heap.size ≤ w.heap.size := h.hb.size
theorem RS0.step {w0 w w' : World} {rb i : Nat} {s : List UInt8} (h : RS0 w0 rb i s w) (hb : RdB w' rb (tlW (rst s i))) (hg : w.grownBy w' (some rb)) : RS0 w0 rb (i + 1) s w' :=
  ⟨by rw [rst_succ]; exact hb, (hg.block _ (lt_of_heap h.zr) (fun e => by injection e with e; have := h.lt; omega)).trans h.zr, below_grown h.hb hg (Nat.le_of_lt h.lt) h.sz, h.lt⟩
theorem RS0.up {w0 w w' : World} {rb i : Nat} {s : List UInt8} (h : RS0 w0 rb i s w) (hb : Below w.heap.size w w') : RS0 w0 rb i s w' :=
  ⟨Boxed.kept h.rd (grown_below hb none) (fun e => by cases e), (hb.block _ (lt_of_heap h.zr)).trans h.zr, below_next h.hb hb, h.lt⟩
/-- The same, and the event's box eb. -/
structure RS (w0 : World) (rb eb i : Nat) (s : List UInt8) (v0 v1 v2 v3 v4 v5 : Int) (w : World) : Prop where
  r0 : RS0 w0 rb i s w
  ev : w.heap[eb]? = some (.cells #[.int .i64 v0, .int .i64 v1, .int .i64 v2, .int .i64 v3, .int .i64 v4, .int .i64 v5] 40 (0, 0))
  lt : rb < eb
theorem RS.up {w0 w w' : World} {rb eb i : Nat} {s : List UInt8} {v0 v1 v2 v3 v4 v5 : Int} (h : RS w0 rb eb i s v0 v1 v2 v3 v4 v5 w) (hb : Below w.heap.size w w') : RS w0 rb eb i s v0 v1 v2 v3 v4 v5 w' :=
  ⟨h.r0.up hb, (hb.block _ (lt_of_heap h.ev)).trans h.ev, h.lt⟩
theorem RS.step {w0 w w' : World} {rb eb i : Nat} {s : List UInt8} {v0 v1 v2 v3 v4 v5 : Int} (h : RS w0 rb eb i s v0 v1 v2 v3 v4 v5 w) (hb : RdB w' rb (tlW (rst s i))) (hg : w.grownBy w' (some rb)) : RS w0 rb eb (i + 1) s v0 v1 v2 v3 v4 v5 w' :=
  ⟨h.r0.step hb hg, (hg.block _ (lt_of_heap h.ev) (fun e => by injection e with e; have := h.lt; omega)).trans h.ev, h.lt⟩
theorem RS0.set {w0 w : World} {rb eb i : Nat} {s : List UInt8} (h : RS0 w0 rb i s w) (hlt : rb < eb) (j : Nat) (u : Value) : RS0 w0 rb i s (w.setCell ⟨eb, j, none⟩ u) :=
  ⟨(Below.heap_setCell _ _ _ _ (fun e => by have e' : rb = eb := e; omega)).trans h.rd, (Below.heap_setCell _ _ _ _ (fun e => by have e' : w0.heap.size = eb := e; have := h.lt; omega)).trans h.zr, h.hb.setCell (p := ⟨eb, j, none⟩) (by have := h.lt; show w0.heap.size ≤ eb; omega) _, h.lt⟩
theorem RS.set2 {w0 w : World} {rb eb i : Nat} {s : List UInt8} {v0 v1 v2 v3 v4 v5 : Int} (h : RS w0 rb eb i s v0 v1 v2 v3 v4 v5 w) (x : Int) : RS w0 rb eb i s v0 v1 x v3 v4 v5 (w.setCell ⟨eb, 2, none⟩ (.int .i64 x)) :=
  ⟨h.r0.set h.lt _ _, heap_setCell_same _ _ _ _ _ _ h.ev, h.lt⟩
theorem RS.set3 {w0 w : World} {rb eb i : Nat} {s : List UInt8} {v0 v1 v2 v3 v4 v5 : Int} (h : RS w0 rb eb i s v0 v1 v2 v3 v4 v5 w) (x : Int) : RS w0 rb eb i s v0 v1 v2 x v4 v5 (w.setCell ⟨eb, 3, none⟩ (.int .i64 x)) :=
  ⟨h.r0.set h.lt _ _, heap_setCell_same _ _ _ _ _ _ h.ev, h.lt⟩
theorem RS.set4 {w0 w : World} {rb eb i : Nat} {s : List UInt8} {v0 v1 v2 v3 v4 v5 : Int} (h : RS w0 rb eb i s v0 v1 v2 v3 v4 v5 w) (x : Int) : RS w0 rb eb i s v0 v1 v2 v3 x v5 (w.setCell ⟨eb, 4, none⟩ (.int .i64 x)) :=
  ⟨h.r0.set h.lt _ _, heap_setCell_same _ _ _ _ _ _ h.ev, h.lt⟩
theorem RS.set5 {w0 w : World} {rb eb i : Nat} {s : List UInt8} {v0 v1 v2 v3 v4 v5 : Int} (h : RS w0 rb eb i s v0 v1 v2 v3 v4 v5 w) (x : Int) : RS w0 rb eb i s v0 v1 v2 v3 v4 x (w.setCell ⟨eb, 5, none⟩ (.int .i64 x)) :=
  ⟨h.r0.set h.lt _ _, heap_setCell_same _ _ _ _ _ _ h.ev, h.lt⟩
/-- What reading asks of the world where it began. -/
structure Rq (w0 : World) (s : List UInt8) : Prop where
  er : Errs w0
  tb : Tab w0.heap.size w0
  ln : s.length ≤ 900000
theorem RS0.errs {w0 w : World} {rb i : Nat} {s : List UInt8} (h : RS0 w0 rb i s w) (q : Rq w0 s) : ∀ w', w.grownBy w' (some rb) → Errs w' := fun _ hg => q.er.up (below_grown h.hb hg (Nat.le_of_lt h.lt) h.sz)
theorem rs0_number {w0 w : World} {rb i : Nat} {s : List UInt8} (h : RS0 w0 rb i s w) (q : Rq w0 s) :
    Calls Tryd.prog 61 #[.pointer (some ⟨rb, 0, none⟩)] w fun e w' => e = .returned (.int .i64 (numP (wd s i))) ∧ RS0 w0 rb (i + 1) s w' := by
  refine (reader_number rb (rst s i) (Nat.le_trans (rst_len s i) q.ln) w h.rd (h.errs q)).mono ?_
  rintro e w' ⟨rfl, h1, h2⟩
  exact ⟨by rw [wd_rst], h.step h1 h2⟩
theorem rs_number {w0 w : World} {rb eb i : Nat} {s : List UInt8} {v0 v1 v2 v3 v4 v5 : Int} (h : RS w0 rb eb i s v0 v1 v2 v3 v4 v5 w) (q : Rq w0 s) :
    Calls Tryd.prog 61 #[.pointer (some ⟨rb, 0, none⟩)] w fun e w' => e = .returned (.int .i64 (numP (wd s i))) ∧ RS w0 rb eb (i + 1) s v0 v1 v2 v3 v4 v5 w' := by
  refine (reader_number rb (rst s i) (Nat.le_trans (rst_len s i) q.ln) w h.r0.rd (h.r0.errs q)).mono ?_
  rintro e w' ⟨rfl, h1, h2⟩
  exact ⟨by rw [wd_rst], h.step h1 h2⟩
/-- A list of names that was made in a world that lies before. -/
structure Nms (nb : Nat) (l : List (List UInt8)) (rb : Nat) (w : World) : Prop where
  cs : ∀ (j : Nat) x, l[j]? = some x → w.cell? ⟨nb, j, none⟩ = some (.string ⟨x.toArray⟩)
  ne : nb ≠ rb
  ln : l.length ≤ 1000
theorem rs0_name {w0 w : World} {rb i nb : Nat} {s : List UInt8} {l : List (List UInt8)} (h : RS0 w0 rb i s w) (q : Rq w0 s) (g : Nms nb l rb w) :
    Calls Tryd.prog 62 #[.pointer (some ⟨rb, 0, none⟩), .slice (some ⟨nb, 0, none⟩) l.length l.length] w fun e w' => e = .returned (.int .i64 (nameP l (wd s i))) ∧ RS0 w0 rb (i + 1) s w' := by
  refine (reader_name rb nb l (rst s i) (Nat.le_trans (rst_len s i) q.ln) g.ln w h.rd g.ne g.cs).mono ?_
  rintro e w' ⟨rfl, h1, h2⟩
  exact ⟨by rw [wd_rst], h.step h1 h2⟩
theorem rs_name {w0 w : World} {rb eb i nb : Nat} {s : List UInt8} {v0 v1 v2 v3 v4 v5 : Int} {l : List (List UInt8)} (h : RS w0 rb eb i s v0 v1 v2 v3 v4 v5 w) (q : Rq w0 s) (g : Nms nb l rb w) :
    Calls Tryd.prog 62 #[.pointer (some ⟨rb, 0, none⟩), .slice (some ⟨nb, 0, none⟩) l.length l.length] w fun e w' => e = .returned (.int .i64 (nameP l (wd s i))) ∧ RS w0 rb eb (i + 1) s v0 v1 v2 v3 v4 v5 w' := by
  refine (reader_name rb nb l (rst s i) (Nat.le_trans (rst_len s i) q.ln) g.ln w h.r0.rd g.ne g.cs).mono ?_
  rintro e w' ⟨rfl, h1, h2⟩
  exact ⟨by rw [wd_rst], h.step h1 h2⟩
def RetRead (w : World) (p : Ev) (b : Bool) (e : Ending) (w' : World) : Prop :=
  e = .returned (.tuple #[.agg #[.int .i64 p.t, .int .i64 p.k, .int .i64 p.n, .int .i64 p.a, .int .i64 p.p, .int .i64 p.r], .bool b]) ∧ Below w.heap.size w w'

/-- Reading the rest of an event whose kind is known: from the world behind the first two words. -/
structure RdEnd (w0 : World) (rb eb : Nat) (s : List UInt8) : Prop where
  q : Rq w0 s

theorem RS.keep {w0 w : World} {rb eb i : Nat} {s : List UInt8} {v0 v1 v2 v3 v4 v5 : Int} (h : RS w0 rb eb i s v0 v1 v2 v3 v4 v5 w) :
    w.cell? ⟨eb, 0, none⟩ = some (.int .i64 v0) ∧ w.cell? ⟨eb, 1, none⟩ = some (.int .i64 v1) ∧ w.cell? ⟨eb, 2, none⟩ = some (.int .i64 v2) ∧ w.cell? ⟨eb, 3, none⟩ = some (.int .i64 v3) ∧ w.cell? ⟨eb, 4, none⟩ = some (.int .i64 v4) ∧ w.cell? ⟨eb, 5, none⟩ = some (.int .i64 v5) ∧ Hid (Below w0.heap.size w0 w) := by
  obtain ⟨c0, c1, c2, c3, c4, c5, _⟩ := six_facts h.ev
  exact ⟨c0, c1, c2, c3, c4, c5, Lib.hid h.r0.hb⟩
theorem six_other {w : World} {b c : Nat} {y0 y1 y2 y3 y4 y5 : Value} (hne : c ≠ b) :
    ((((((w.setCell ⟨b, 0, none⟩ y0).setCell ⟨b, 1, none⟩ y1).setCell ⟨b, 2, none⟩ y2).setCell ⟨b, 3, none⟩ y3).setCell ⟨b, 4, none⟩ y4).setCell ⟨b, 5, none⟩ y5).heap[c]? = w.heap[c]? := by
  rw [Below.heap_setCell _ _ _ _ hne, Below.heap_setCell _ _ _ _ hne, Below.heap_setCell _ _ _ _ hne, Below.heap_setCell _ _ _ _ hne, Below.heap_setCell _ _ _ _ hne, Below.heap_setCell _ _ _ _ hne]
theorem RS.keepz {w0 w : World} {rb eb i : Nat} {s : List UInt8} {v0 v1 v2 v3 v4 v5 : Int} {y0 y1 y2 y3 y4 y5 : Value} (h : RS w0 rb eb i s v0 v1 v2 v3 v4 v5 w) :
    ((((((w.setCell ⟨w0.heap.size, 0, none⟩ y0).setCell ⟨w0.heap.size, 1, none⟩ y1).setCell ⟨w0.heap.size, 2, none⟩ y2).setCell ⟨w0.heap.size, 3, none⟩ y3).setCell ⟨w0.heap.size, 4, none⟩ y4).setCell ⟨w0.heap.size, 5, none⟩ y5).cell? ⟨eb, 0, none⟩ = some (.int .i64 v0) ∧
    ((((((w.setCell ⟨w0.heap.size, 0, none⟩ y0).setCell ⟨w0.heap.size, 1, none⟩ y1).setCell ⟨w0.heap.size, 2, none⟩ y2).setCell ⟨w0.heap.size, 3, none⟩ y3).setCell ⟨w0.heap.size, 4, none⟩ y4).setCell ⟨w0.heap.size, 5, none⟩ y5).cell? ⟨eb, 1, none⟩ = some (.int .i64 v1) ∧
    ((((((w.setCell ⟨w0.heap.size, 0, none⟩ y0).setCell ⟨w0.heap.size, 1, none⟩ y1).setCell ⟨w0.heap.size, 2, none⟩ y2).setCell ⟨w0.heap.size, 3, none⟩ y3).setCell ⟨w0.heap.size, 4, none⟩ y4).setCell ⟨w0.heap.size, 5, none⟩ y5).cell? ⟨eb, 2, none⟩ = some (.int .i64 v2) ∧
    ((((((w.setCell ⟨w0.heap.size, 0, none⟩ y0).setCell ⟨w0.heap.size, 1, none⟩ y1).setCell ⟨w0.heap.size, 2, none⟩ y2).setCell ⟨w0.heap.size, 3, none⟩ y3).setCell ⟨w0.heap.size, 4, none⟩ y4).setCell ⟨w0.heap.size, 5, none⟩ y5).cell? ⟨eb, 3, none⟩ = some (.int .i64 v3) ∧
    ((((((w.setCell ⟨w0.heap.size, 0, none⟩ y0).setCell ⟨w0.heap.size, 1, none⟩ y1).setCell ⟨w0.heap.size, 2, none⟩ y2).setCell ⟨w0.heap.size, 3, none⟩ y3).setCell ⟨w0.heap.size, 4, none⟩ y4).setCell ⟨w0.heap.size, 5, none⟩ y5).cell? ⟨eb, 4, none⟩ = some (.int .i64 v4) ∧
    ((((((w.setCell ⟨w0.heap.size, 0, none⟩ y0).setCell ⟨w0.heap.size, 1, none⟩ y1).setCell ⟨w0.heap.size, 2, none⟩ y2).setCell ⟨w0.heap.size, 3, none⟩ y3).setCell ⟨w0.heap.size, 4, none⟩ y4).setCell ⟨w0.heap.size, 5, none⟩ y5).cell? ⟨eb, 5, none⟩ = some (.int .i64 v5) ∧
    Hid (Below w0.heap.size w0 ((((((w.setCell ⟨w0.heap.size, 0, none⟩ y0).setCell ⟨w0.heap.size, 1, none⟩ y1).setCell ⟨w0.heap.size, 2, none⟩ y2).setCell ⟨w0.heap.size, 3, none⟩ y3).setCell ⟨w0.heap.size, 4, none⟩ y4).setCell ⟨w0.heap.size, 5, none⟩ y5)) := by
  have hne : eb ≠ w0.heap.size := by have := h.lt; have := h.r0.lt; omega
  obtain ⟨c0, c1, c2, c3, c4, c5, _⟩ := six_facts ((six_other (y0 := y0) (y1 := y1) (y2 := y2) (y3 := y3) (y4 := y4) (y5 := y5) hne).trans h.ev)
  exact ⟨c0, c1, c2, c3, c4, c5, Lib.hid (six_below (Nat.le_refl _) h.r0.hb)⟩

theorem str_ne {x y : List UInt8} (h : ¬ x = y) : (x == y) = false := by simpa using h

end Go.Proofs.YtjcnjnonhncelaaDoor
