/-
  trace.Parse: what it returns.
-/
import Derived.Test.YtjcnjnonhncelaaDoorReadZ
import Derived.Test.YtjcnjnonhncelaaDoorParT
import Derived.Test.YtjcnjnonhncelaaDoorQuietR
namespace Go.Proofs.YtjcnjnonhncelaaDoor
set_option linter.unusedSimpArgs false
set_option linter.unusedVariables false
open Go.RowKit Go.Shelf
attribute [local go_sem] Oper.semAt_some

theorem SplitAfterSeq_in (n : Nat) (hn : 1 ≤ n) (s : List UInt8) (c : UInt8) (w : World) :
    CallsIn Fence.wide n Tryd.prog 34 #[.string ⟨s.toArray⟩, .string ⟨#[c]⟩] w fun e w' => e = .returned (.func (.func 72) #[] #[.pointer (some ⟨w.heap.size + 1, 0, none⟩), .pointer (some ⟨w.heap.size, 0, none⟩), .pointer (some ⟨w.heap.size + 1 + 1, 0, none⟩)]) ∧
      w' = ((w.alloc (.cells #[.string ⟨s.toArray⟩] 9)).alloc (.cells #[.string ⟨#[c]⟩] 9)).alloc (.cells #[.int .i64 1] 3) := by
  refine callsIn_of_wp Tryd.func34 rfl trivial ?_ rfl
  simp only [Tryd.ntmps34, List.size_toArray, List.length_cons, List.length_nil, Nat.reduceAdd, Nat.reduceSub, Array.replicate_succ, Array.replicate_zero, List.push_toArray, List.append_toArray, List.nil_append, List.cons_append]
  gi_wp2_with (refine ⟨trivial, ?_⟩; gi_at_call 59; refine (splitSeq_in _ _ _ _ _).mono ?_; rintro e w1 ⟨rfl, rfl⟩)
  go_ret
  exact ⟨rfl, rfl⟩

/-- What code keeps that writes into the blocks X and makes memory: all other blocks below base, and whatever holds no cells. -/
structure LoP (base : Nat) (X : List Nat) (W W' : World) : Prop where
  os : W'.os = W.os
  tape : W'.tape = W.tape
  output : W'.output = W.output
  size : W.heap.size ≤ W'.heap.size
  blk : ∀ k, k < base → k ∉ X → W'.heap[k]? = W.heap[k]?
  oth : ∀ (k : Nat) (o : Obj), W.heap[k]? = some o → o.isCells = false → W'.heap[k]? = some o
theorem LoP.refl (base : Nat) (X : List Nat) (W : World) : LoP base X W W := ⟨rfl, rfl, rfl, Nat.le_refl _, fun _ _ _ => rfl, fun _ _ h _ => h⟩
theorem LoP.trans {base : Nat} {X : List Nat} {A B C : World} (h : LoP base X A B) (g : LoP base X B C) : LoP base X A C :=
  ⟨g.os.trans h.os, g.tape.trans h.tape, g.output.trans h.output, Nat.le_trans h.size g.size, fun k hk hn => (g.blk k hk hn).trans (h.blk k hk hn), fun k o hk ho => g.oth k o (h.oth k o hk ho) ho⟩
theorem LoP.of_below {base : Nat} {X : List Nat} {W W' : World} (hb : Below W.heap.size W W') (hs : base ≤ W.heap.size) : LoP base X W W' :=
  ⟨hb.os, hb.tape, hb.output, hb.size, fun k hk _ => hb.block k (by omega), fun k o hk _ => (hb.block k (Array.getElem?_eq_some_iff.1 hk).1).trans hk⟩
theorem LoP.append {base : Nat} {X : List Nat} {W w1 : World} {e : TypeId} {size n : Nat} {v : Value} {xs : List Value} {tmp : Obj} (hrow : W.ownsRow base e size v n xs) (hg : (W.alloc tmp).grownBy w1 v.ownBlock) (hs : base ≤ W.heap.size) : LoP base X W w1 := by
  have hb := below_box W tmp
  refine ⟨hg.os.trans hb.os, hg.tape.trans hb.tape, hg.output.trans hb.output, Nat.le_trans hb.size hg.size, fun k hk _ => ?_, fun k o hk ho => ?_⟩
  · rw [hg.block k (by have := hb.size; omega) (fun e => by have := (hrow.lt k e.symm).1; omega), hb.block k (by omega)]
  · have hlt := (Array.getElem?_eq_some_iff.1 hk).1
    rw [hg.block k (by have := hb.size; omega) (fun e => ?_), hb.block k hlt, hk]
    rcases hrow.2 with ⟨rfl, _⟩ | ⟨g, cap, cur, rfl, _, hgb, _⟩
    · simp [Value.ownBlock] at e
    · obtain rfl : k = g := by simpa [Value.ownBlock] using e
      rw [hgb] at hk; cases hk; cases ho
theorem LoP.set {base b : Nat} {X : List Nat} {W : World} {t : TypeId} {v : Value} (h : Boxed W b t v) (hX : b ∈ X) (u : Value) : LoP base X W (W.setCell ⟨b, 0, none⟩ u) := by
  have hg := grownBy_setCell' W b u
  refine ⟨hg.os, hg.tape, hg.output, hg.size, fun k hk hn => ?_, fun k o hk ho => ?_⟩
  · exact Below.heap_setCell _ _ _ _ (fun e => hn (by have e' : k = b := e; rw [e']; exact hX))
  · rw [Below.heap_setCell _ _ _ _ (fun e => ?_), hk]
    have e' : k = b := e
    rw [e', show W.heap[b]? = _ from h] at hk; cases hk; cases ho
theorem LoP.mono {base : Nat} {X Y : List Nat} {W W' : World} (h : LoP base X W W') (hs : ∀ b ∈ X, b ∈ Y) : LoP base Y W W' := ⟨h.os, h.tape, h.output, h.size, fun k hk hn => h.blk k hk (fun hm => hn (hs k hm)), h.oth⟩
theorem LoP.drew {base : Nat} {X : List Nat} {W W' : World} (h : LoP base X W W') : LoP base X W W'.drew := ⟨h.os, h.tape, h.output, h.size, h.blk, h.oth⟩
/-- The world behind the three stores of the results. -/
def Put3 (b0 b1 b2 : Nat) (W : World) (v0 v1 v2 : Value) : World := ((W.setCell ⟨b0, 0, none⟩ v0).setCell ⟨b1, 0, none⟩ v1).setCell ⟨b2, 0, none⟩ v2
theorem put3_lo {base b0 b1 b2 : Nat} {X : List Nat} {W W4 : World} {t0 t1 t2 : TypeId} {v0 v1 v2 u0 u1 u2 : Value} (h : LoP base X W W4) (h0 : Boxed W4 b0 t0 v0) (h1 : Boxed W4 b1 t1 v1) (h2 : Boxed W4 b2 t2 v2) (n1 : b0 < b1) (n2 : b1 < b2) :
    LoP base (b0 :: b1 :: b2 :: X) W (Put3 b0 b1 b2 W4 u0 u1 u2) :=
  (((h.mono (Y := b0 :: b1 :: b2 :: X) (fun b hb => by simp [hb])).trans (LoP.set h0 (by simp) _)).trans (LoP.set (h1.other (by omega) _) (by simp) _)).trans (LoP.set ((h2.other (by omega) _).other (by omega) _) (by simp) _)
theorem put3_box {b0 b1 b2 : Nat} {W4 : World} {t0 t1 t2 : TypeId} {v0 v1 v2 u0 u1 u2 : Value} (h0 : Boxed W4 b0 t0 v0) (h1 : Boxed W4 b1 t1 v1) (h2 : Boxed W4 b2 t2 v2) (n1 : b0 < b1) (n2 : b1 < b2) :
    Boxed (Put3 b0 b1 b2 W4 u0 u1 u2) b0 t0 u0 ∧ Boxed (Put3 b0 b1 b2 W4 u0 u1 u2) b1 t1 u1 ∧ Boxed (Put3 b0 b1 b2 W4 u0 u1 u2) b2 t2 u2 :=
  ⟨((h0.set _).other (by omega) _).other (by omega) _, ((h1.other (by omega) _).set _).other (by omega) _, ((h2.other (by omega) _).other (by omega) _).set _⟩
theorem LoP.keeps {base B' : Nat} {X : List Nat} {W W' : World} (h : LoP base X W W') : KeepsFrom B' W W' := ⟨h.size, fun k o _ hk ho => h.oth k o hk ho⟩
theorem LoP.box {base b : Nat} {X : List Nat} {W W' : World} {t : TypeId} {v : Value} (h : LoP base X W W') (hb : Boxed W b t v) (h1 : b < base) (h2 : b ∉ X) : Boxed W' b t v := (h.blk b h1 h2).trans hb
theorem LoP.below {base n₀ : Nat} {X : List Nat} {w W W' : World} (h : LoP base X W W') (hb : Below n₀ w W) (h1 : n₀ ≤ base) (h2 : ∀ b ∈ X, n₀ ≤ b) : Below n₀ w W' :=
  ⟨h.os.trans hb.os, h.tape.trans hb.tape, h.output.trans hb.output, Nat.le_trans hb.size h.size, fun k hk => (h.blk k (by omega) (fun hm => by have := h2 k hm; omega)).trans (hb.block k hk)⟩

theorem splitK_mem' {c : UInt8} {kp x : List UInt8} : ∀ {s : List UInt8}, x ∈ splitK c kp s → x.length ≤ s.length + kp.length := by
  suffices H : ∀ (n : Nat) (s : List UInt8), s.length ≤ n → x ∈ splitK c kp s → x.length ≤ s.length + kp.length from fun {s} h => H s.length s (Nat.le_refl _) h
  intro n
  induction n with
  | zero =>
    intro s hs h
    obtain rfl : s = [] := List.eq_nil_of_length_eq_zero (by omega)
    simp [splitK] at h
    subst h; simp
  | succ n ih =>
    intro s hs h
    by_cases hm : c ∈ s
    · obtain ⟨y, z, rfl, hy⟩ := indexByte_some hm
      rw [splitK_hit hy] at h
      rcases List.mem_cons.1 h with rfl | h
      · simp only [List.length_append, List.length_cons]; omega
      · have := ih z (by simp at hs; omega) h
        simp only [List.length_append, List.length_cons]; omega
    · rw [splitK_miss hm] at h
      simp at h
      subst h; omega
theorem trim_len (x p : List UInt8) : (Lib.trimSuffix x p).length ≤ x.length := by
  unfold Lib.trimSuffix
  split
  · exact List.length_take_le' _ _
  · exact Nat.le_refl _
theorem Firm.ex {β γ : Type} {B Bs : Nat} {J : β × γ → World → Prop} (h : Firm B Bs J) : Firm B Bs fun s W => ∃ g, J (s, g) W := by
  rintro s X Y r ⟨g, hs⟩ hg hr
  exact ⟨g, h (s, g) X Y r hs hg hr⟩
theorem Firm.or {β : Type} {B Bs : Nat} {I J : β → World → Prop} (h : Firm B Bs I) (g : Firm B Bs J) : Firm B Bs fun s W => I s W ∨ J s W := by
  rintro s X Y r (hs | hs) hg hr
  · exact .inl (h s X Y r hs hg hr)
  · exact .inr (g s X Y r hs hg hr)

/-- Where parsing stands: the list's box b3 and what it owns, the number's box b4, the results' boxes. -/
def PS (w : World) (b0 b1 b2 b3 b4 base : Nat) (s : Nat × List Ev) (W : World) : Prop :=
  (∃ v, Boxed W b3 22 v ∧ W.ownsRow base 40 6 v s.2.length (evL s.2)) ∧ Boxed W b4 3 (.int .i64 (s.1 : Int)) ∧
  Boxed W b0 22 (.slice none 0 0) ∧ Boxed W b1 3 (.int .i64 0) ∧ Boxed W b2 24 (.int .i64 0) ∧ Below b0 w W ∧ base ≤ W.heap.size
theorem Firm.map {β γ : Type} {B Bs : Nat} {J : β → World → Prop} (h : Firm B Bs J) (f : γ → β) : Firm B Bs fun s W => J (f s) W := fun s X Y r hs hg hr => h (f s) X Y r hs hg hr
theorem firmPS {w : World} {n b0 b1 b2 b3 b4 b5 base : Nat} (h0 : b0 ≠ b5) (h1 : b1 ≠ b5) (h2 : b2 ≠ b5) (h3 : b3 ≠ b5) (h4 : b4 ≠ b5) (h5 : b5 < base) (h6 : b0 ≤ w.heap.size) (h7 : b0 ≤ n) (h8 : b0 ≤ b5) :
    Firm n b5 (PS w b0 b1 b2 b3 b4 base) :=
  Firm.and (Firm.row (fun s : Nat × List Ev => s.2.length) (fun s => evL s.2) h3 (fun W v s h e => by have := (h.lt _ e).1; omega)) (Firm.and (Firm.blk (f := fun s : Nat × List Ev => #[.int .i64 (s.1 : Int)]) h4) (Firm.and (Firm.blk h0) (Firm.and (Firm.blk h1) (Firm.and (Firm.blk h2) (Firm.and (Firm.below h6 h7 h8) Firm.size)))))
/-- A call that returns a list of events, a number and an error. -/
def RetEP (w : World) (r : List Ev × Int × Int) (e : Ending) (w' : World) : Prop :=
  ∃ A c, e = .returned (.tuple #[.slice A r.1.length c, .int .i64 r.2.1, .int .i64 r.2.2]) ∧ r.1.length ≤ c ∧ c ≤ maxLen ∧ RdE w' A r.1 ∧ Below w.heap.size w w'

theorem retEP_of {w w' : World} {base : Nat} {E : TypeId} {A : Option Addr} {ca : Nat} {l : List Ev} (h : w'.ownsRow base E 6 (.slice A l.length ca) l.length (evL l)) (hb : Below w.heap.size w w') : RetEP w (l, 0, 0) (.returned (.tuple #[.slice A l.length ca, .int .i64 0, .int .i64 0])) w' := by
  obtain ⟨A', c', he, h1, h2, h3⟩ := rde_of_own h
  injection he with e1 _ e2
  subst e1 e2
  exact ⟨A, ca, rfl, h1, h2, h3, hb⟩
theorem retEP_nil {w w' : World} {k : Int} (hb : Below w.heap.size w w') : RetEP w ([], k, 3) (.returned (.tuple #[.slice none 0 0, .int .i64 k, .int .i64 3])) w' :=
  ⟨none, 0, rfl, Nat.le_refl _, Nat.zero_le _, .inl rfl, hb⟩

set_option maxRecDepth 100000 in
set_option maxHeartbeats 8000000 in
theorem trace_Parse (s : List UInt8) (hs : s.length ≤ 100000) (w : World) (hE : Errs w) (ht : Tab w.heap.size w) :
    Calls Tryd.prog 14 #[.string ⟨s.toArray⟩] w (RetEP w (parseT s)) := by
  obtain ⟨i0, hi, hz0, hz1, hz2⟩ := info_parts evInfo
  have HE := Lib.hid hE
  have HTb := Lib.hid ht
  clear hE ht
  obtain ⟨V, hV⟩ : ∃ V, V = parseT s := ⟨_, rfl⟩
  rw [← hV]
  obtain ⟨ps, hps⟩ : ∃ ps, ps = splitK 10 [10] s := ⟨_, rfl⟩
  have HV : Hid (goT ps [] = V) := Lib.hid (by rw [hV, hps]; rfl)
  have HPS := Lib.hid hps
  clear hV hps
  refine (callsIn_wide (n := 3)).1 ?_
  refine callsIn_of_wp_marks Tryd.func14 rfl trivial ?_ rfl
  simp only [Tryd.ntmps14, List.size_toArray, List.length_cons, List.length_nil, Nat.reduceAdd, Nat.reduceSub, Array.replicate_succ, Array.replicate_zero, List.push_toArray, List.append_toArray, List.nil_append, List.cons_append]
  gi_wp2_with (refine ⟨trivial, ?_⟩; gi_at_call 34; refine (SplitAfterSeq_in _ (by omega) _ _ _).mono ?_; rintro e w1 ⟨rfl, rfl⟩)
  have B0 := ((((((((Boxed.new w 22 (.slice none 0 0)).alloc (.cells #[.int .i64 0] 3)).alloc (.cells #[.int .i64 0] 24)).alloc (.cells #[.slice none 0 0] 22)).alloc (.cells #[.int .i64 0] 3)).alloc (.cells #[.string ⟨s.toArray⟩] 9)).alloc (.cells #[.string ⟨#[10]⟩] 9)).alloc (.cells #[.int .i64 1] 3))
  have B1 := (((((((Boxed.new (w.alloc (.cells #[.slice none 0 0] 22)) 3 (.int .i64 0)).alloc (.cells #[.int .i64 0] 24)).alloc (.cells #[.slice none 0 0] 22)).alloc (.cells #[.int .i64 0] 3)).alloc (.cells #[.string ⟨s.toArray⟩] 9)).alloc (.cells #[.string ⟨#[10]⟩] 9)).alloc (.cells #[.int .i64 1] 3))
  have B2 := ((((((Boxed.new ((w.alloc (.cells #[.slice none 0 0] 22)).alloc (.cells #[.int .i64 0] 3)) 24 (.int .i64 0)).alloc (.cells #[.slice none 0 0] 22)).alloc (.cells #[.int .i64 0] 3)).alloc (.cells #[.string ⟨s.toArray⟩] 9)).alloc (.cells #[.string ⟨#[10]⟩] 9)).alloc (.cells #[.int .i64 1] 3))
  have B3 := (((((Boxed.new (((w.alloc (.cells #[.slice none 0 0] 22)).alloc (.cells #[.int .i64 0] 3)).alloc (.cells #[.int .i64 0] 24)) 22 (.slice none 0 0)).alloc (.cells #[.int .i64 0] 3)).alloc (.cells #[.string ⟨s.toArray⟩] 9)).alloc (.cells #[.string ⟨#[10]⟩] 9)).alloc (.cells #[.int .i64 1] 3))
  have B4 := ((((Boxed.new ((((w.alloc (.cells #[.slice none 0 0] 22)).alloc (.cells #[.int .i64 0] 3)).alloc (.cells #[.int .i64 0] 24)).alloc (.cells #[.slice none 0 0] 22)) 3 (.int .i64 0)).alloc (.cells #[.string ⟨s.toArray⟩] 9)).alloc (.cells #[.string ⟨#[10]⟩] 9)).alloc (.cells #[.int .i64 1] 3))
  have B5 := (((Boxed.new (((((w.alloc (.cells #[.slice none 0 0] 22)).alloc (.cells #[.int .i64 0] 3)).alloc (.cells #[.int .i64 0] 24)).alloc (.cells #[.slice none 0 0] 22)).alloc (.cells #[.int .i64 0] 3)) 9 (.string ⟨s.toArray⟩)).alloc (.cells #[.string ⟨#[10]⟩] 9)).alloc (.cells #[.int .i64 1] 3))
  have B6 := ((Boxed.new ((((((w.alloc (.cells #[.slice none 0 0] 22)).alloc (.cells #[.int .i64 0] 3)).alloc (.cells #[.int .i64 0] 24)).alloc (.cells #[.slice none 0 0] 22)).alloc (.cells #[.int .i64 0] 3)).alloc (.cells #[.string ⟨s.toArray⟩] 9)) 9 (.string ⟨#[10]⟩)).alloc (.cells #[.int .i64 1] 3))
  have B7 := (Boxed.new (((((((w.alloc (.cells #[.slice none 0 0] 22)).alloc (.cells #[.int .i64 0] 3)).alloc (.cells #[.int .i64 0] 24)).alloc (.cells #[.slice none 0 0] 22)).alloc (.cells #[.int .i64 0] 3)).alloc (.cells #[.string ⟨s.toArray⟩] 9)).alloc (.cells #[.string ⟨#[10]⟩] 9)) 3 (.int .i64 1))
  have HB0 : Below w.heap.size w ((((((((w.alloc (.cells #[.slice none 0 0] 22)).alloc (.cells #[.int .i64 0] 3)).alloc (.cells #[.int .i64 0] 24)).alloc (.cells #[.slice none 0 0] 22)).alloc (.cells #[.int .i64 0] 3)).alloc (.cells #[.string ⟨s.toArray⟩] 9)).alloc (.cells #[.string ⟨#[10]⟩] 9)).alloc (.cells #[.int .i64 1] 3)) := ((((((((Below.refl _ w).alloc (Nat.le_refl _) _).alloc (by simp) _).alloc (by simp; omega) _).alloc (by simp; omega) _).alloc (by simp; omega) _).alloc (by simp; omega) _).alloc (by simp; omega) _).alloc (by simp; omega) _
  simp only [World.size_alloc] at B1 B2 B3 B4 B5 B6 B7
  have hsz : ((((((((w.alloc (.cells #[.slice none 0 0] 22)).alloc (.cells #[.int .i64 0] 3)).alloc (.cells #[.int .i64 0] 24)).alloc (.cells #[.slice none 0 0] 22)).alloc (.cells #[.int .i64 0] 3)).alloc (.cells #[.string ⟨s.toArray⟩] 9)).alloc (.cells #[.string ⟨#[10]⟩] 9)).alloc (.cells #[.int .i64 1] 3)).heap.size = w.heap.size + 1 + 1 + 1 + 1 + 1 + 1 + 1 + 1 := by simp
  generalize ((((((((w.alloc (.cells #[.slice none 0 0] 22)).alloc (.cells #[.int .i64 0] 3)).alloc (.cells #[.int .i64 0] 24)).alloc (.cells #[.slice none 0 0] 22)).alloc (.cells #[.int .i64 0] 3)).alloc (.cells #[.string ⟨s.toArray⟩] 9)).alloc (.cells #[.string ⟨#[10]⟩] 9)).alloc (.cells #[.int .i64 1] 3)) = W0 at *
  obtain ⟨b7, hb7⟩ : ∃ b, b = w.heap.size + 1 + 1 + 1 + 1 + 1 + 1 + 1 := ⟨_, rfl⟩
  rw [← hb7] at B7 hsz ⊢
  obtain ⟨b6, hb6⟩ : ∃ b, b = w.heap.size + 1 + 1 + 1 + 1 + 1 + 1 := ⟨_, rfl⟩
  rw [← hb6] at B6 ⊢
  obtain ⟨b5, hb5⟩ : ∃ b, b = w.heap.size + 1 + 1 + 1 + 1 + 1 := ⟨_, rfl⟩
  rw [← hb5] at B5 ⊢
  obtain ⟨b4, hb4⟩ : ∃ b, b = w.heap.size + 1 + 1 + 1 + 1 := ⟨_, rfl⟩
  rw [← hb4] at B4 ⊢
  obtain ⟨b3, hb3⟩ : ∃ b, b = w.heap.size + 1 + 1 + 1 := ⟨_, rfl⟩
  rw [← hb3] at B3 ⊢
  obtain ⟨b2, hb2⟩ : ∃ b, b = w.heap.size + 1 + 1 := ⟨_, rfl⟩
  rw [← hb2] at B2 ⊢
  obtain ⟨b1, hb1⟩ : ∃ b, b = w.heap.size + 1 := ⟨_, rfl⟩
  rw [← hb1] at B1 ⊢
  obtain ⟨b0, hb0⟩ : ∃ b, b = w.heap.size := ⟨_, rfl⟩
  rw [← hb0] at B0 HB0 ⊢
  have l0 : b0 < b1 := by omega
  have l1 : b1 < b2 := by omega
  have l2 : b2 < b3 := by omega
  have l3 : b3 < b4 := by omega
  have l4 : b4 < b5 := by omega
  have l5 : b5 < b6 := by omega
  have l6 : b6 < b7 := by omega
  have l7 : b7 < W0.heap.size := by omega
  have HBE := Lib.hid hb0
  have hbw : b0 ≤ w.heap.size := by omega
  have hbw2 : w.heap.size ≤ b0 := by omega
  clear hb0 hb1 hb2 hb3 hb4 hb5 hb6 hb7 hsz
  obtain ⟨base, hbase⟩ : ∃ b, b = W0.heap.size := ⟨_, rfl⟩
  have l8 : b7 < base := by omega
  have l9 : base ≤ W0.heap.size := by omega
  have l10 : W0.heap.size ≤ base := by omega
  clear hbase
  have hslen : s.length ≤ 1000000 := by omega
  refine rangeC rfl (by omega) (gf := 72) (lb := #[.pointer (some ⟨b6, 0, none⟩), .pointer (some ⟨b5, 0, none⟩), .pointer (some ⟨b7, 0, none⟩)]) rfl trivial (enters_of Tryd.func72 (by kernel_rfl) rfl)
    (Bs := b5) (Kp := K3 b6 b5 b7) (ps := ps) B5.lt
    (by rw [HPS.out]; exact split1_in 2 (by omega) 10 [10] s (.inr rfl) hslen _ _ _ _ (by omega) (by omega) B6 B5 B7)
    K3.trans (fun W l o' hl _ => K3.put (by omega) (by omega) (by omega) W l o' hl) rfl
    (fun k W => ∃ L, goT (ps.drop k) L = V ∧ L.length = k ∧ PS w b0 b1 b2 b3 b4 base (k, L) W)
    (fun c k W => (c = .ret ∧ V = ([], (k : Int), 3) ∧ Boxed W b0 22 (.slice none 0 0) ∧ Boxed W b1 3 (.int .i64 (k : Int)) ∧ Boxed W b2 24 (.int .i64 3) ∧ Below b0 w W) ∨ (∃ L, c = .exit 0 ∧ V = (L, 0, 0) ∧ L.length + 1 = k ∧ PS w b0 b1 b2 b3 b4 base (k - 1, L) W))
    (Firm.ex (β := Nat) (γ := List Ev) (J := fun p W => goT (ps.drop p.1) p.2 = V ∧ p.2.length = p.1 ∧ PS w b0 b1 b2 b3 b4 base p W) (Firm.and (Firm.pure _) (Firm.and (Firm.pure _) ?firm1)))
    (fun c => Firm.or (Firm.and (Firm.pure _) (Firm.and (Firm.pure _) (Firm.and (Firm.blk (by omega)) (Firm.and (Firm.blk (by omega)) (Firm.and (Firm.blk (by omega)) (Firm.below (by omega) (by omega) (by omega))))))) ?firm2)
    ⟨[], HV.out, rfl, ⟨_, B3, World.ownsRow_nil _ _ _ _⟩, B4, B0, B1, B2, HB0, l9⟩
    (fun x => { tmps := #[.string ⟨s.toArray⟩, undef, .pointer (some ⟨b0, 0, none⟩), .pointer (some ⟨b1, 0, none⟩), .pointer (some ⟨b2, 0, none⟩), .pointer (some ⟨b3, 0, none⟩), .pointer (some ⟨b4, 0, none⟩), .string ⟨x.toArray⟩, undef, undef, undef, undef, .string ⟨s.toArray⟩, .func (.func 72) #[] #[.pointer (some ⟨b6, 0, none⟩), .pointer (some ⟨b5, 0, none⟩), .pointer (some ⟨b7, 0, none⟩)], .string ⟨x.toArray⟩, undef, undef, undef, undef, undef, undef, undef, undef, undef, undef, undef, undef, undef, undef, undef, undef, undef, undef, undef, undef, undef, undef, undef, undef, undef, undef, undef, undef, undef, undef, undef, undef, undef, undef, undef, undef, undef, undef, undef, undef, undef, undef, undef], defers := [] }) ?assign ?body ?done ?stop
  case firm1 => exact firmPS (by omega) (by omega) (by omega) (by omega) (by omega) (by omega) (by omega) (by omega) (by omega)
  case firm2 => exact Firm.ex (β := Nat) (γ := List Ev) (J := fun p W => c = .exit 0 ∧ V = (p.2, 0, 0) ∧ p.2.length + 1 = p.1 ∧ PS w b0 b1 b2 b3 b4 base (p.1 - 1, p.2) W) (Firm.and (Firm.pure _) (Firm.and (Firm.pure _) (Firm.and (Firm.pure _) (Firm.map (γ := Nat × List Ev) (firmPS (n := W0.heap.size) (by omega) (by omega) (by omega) (by omega) (by omega) (by omega) (by omega) (by omega) (by omega)) fun p => (p.1 - 1, p.2)))))
  case assign =>
    intro l x W K hK
    gi_wp2
    exact hK
  case body =>
    rintro l k x W ⟨L, hg, hLk, ⟨v, hv, hrow⟩, hn, h0, h1, h2, hB, hsb⟩ hx
    simp only at hv hrow hn
    obtain ⟨A, ca, rfl, hca1, hca2, hrd⟩ := rde_of_own hrow
    rw [hLk] at hv hrow
    have HRDE := Lib.hid hrd
    clear hrd
    have hkl := (List.getElem?_eq_some_iff.1 hx).1
    have hpl : ps.length ≤ 100001 := by have := splitK_len 10 [10] s; rw [← HPS.out] at this; omega
    have hxl : x.length ≤ 100001 := by have := splitK_mem' (HPS.out ▸ List.mem_of_getElem? hx); simp at this; omega
    have hd : ps.drop k = x :: ps.drop (k + 1) := by rw [List.drop_eq_getElem_cons hkl]; congr 1; exact (List.getElem?_eq_some_iff.1 hx).2
    rw [hd] at hg
    have HG := Lib.hid hg
    have HL := Lib.hid hLk
    have HX := Lib.hid hx
    have HROW := Lib.hid hrow
    have HVB := Lib.hid hv
    have HNB := Lib.hid hn
    have H0 := Lib.hid h0
    have H1 := Lib.hid h1
    have H2 := Lib.hid h2
    have HBW := Lib.hid hB
    have c4 := hn.cell
    have f4 := hn.frozen
    clear hg hLk hx hrow hv hn h0 h1 h2 hB hd
    by_cases hxe : x = []
    · subst hxe
      have HVV : Hid (V = (L, 0, 0)) := Lib.hid (by rw [← HG.out]; exact goT_stop)
      gi_wp2
      refine ⟨⟨Nat.le_refl _, fun _ _ _ h _ => h⟩, .inr ⟨L, rfl, HVV.out, by rw [HL.out], ?_⟩⟩
      rw [Nat.add_sub_cancel]
      exact ⟨⟨_, HVB.out, by simp only; rw [HL.out]; exact HROW.out⟩, HNB.out, H0.out, H1.out, H2.out, HBW.out, hsb⟩
    · have hxb : (x == []) = false := by simpa using hxe
      have HXE := Lib.hid hxe
      clear hxe
      obtain ⟨ln, hln⟩ : ∃ ln, ln = Lib.trimSuffix x [10] := ⟨_, rfl⟩
      obtain ⟨sf, hsf⟩ : ∃ sf, sf = Lib.hasSuffix x [10] := ⟨_, rfl⟩
      have hlnl : ln.length ≤ 100001 := by rw [hln]; exact Nat.le_trans (trim_len x [10]) hxl
      have HCS : Hid (∀ W', Calls Tryd.prog 35 #[.string ⟨x.toArray⟩, .string ⟨#[10]⟩] W' fun e w'' => e = .returned (.tuple #[.string ⟨ln.toArray⟩, .bool sf]) ∧ W' = w'') := Lib.hid fun W' => by
        refine (Tryd.strings_CutSuffix ⟨x.toArray⟩ ⟨#[10]⟩ W' (by rw [sizeB]; omega)).mono ?_
        rintro e w'' ⟨rfl, rfl⟩
        exact ⟨by rw [hln, hsf], rfl⟩
      have HLN := Lib.hid hln
      have HSF := Lib.hid hsf
      clear hln hsf
      have HL1 : Hid (LoP base [b4] W (W.setCell ⟨b4, 0, none⟩ (.int .i64 ((k : Int) + 1)))) := Lib.hid (LoP.set HNB.out (by simp) _)
      have HN1 : Hid (Boxed (W.setCell ⟨b4, 0, none⟩ (.int .i64 ((k : Int) + 1))) b4 3 (.int .i64 ((k : Int) + 1))) := Lib.hid (HNB.out.set _)
      have hs1 : base ≤ (W.setCell ⟨b4, 0, none⟩ (.int .i64 ((k : Int) + 1))).heap.size := Nat.le_trans hsb HL1.out.size
      have HBW1 : Hid (Below w.heap.size w (W.setCell ⟨b4, 0, none⟩ (.int .i64 ((k : Int) + 1)))) := Lib.hid (HL1.out.below (HBE.out ▸ HBW.out) (by omega) (by simp; omega))
      have HE1 : Hid (Errs (W.setCell ⟨b4, 0, none⟩ (.int .i64 ((k : Int) + 1)))) := Lib.hid (HE.out.up HBW1.out)
      have HT1 : Hid (Tab (W.setCell ⟨b4, 0, none⟩ (.int .i64 ((k : Int) + 1))).heap.size (W.setCell ⟨b4, 0, none⟩ (.int .i64 ((k : Int) + 1)))) := Lib.hid (tab_up HTb.out HBW1.out HBW1.out.size)
      cases sf with
      | false =>
        have HVV : Hid (V = ([], (((k + 1 : Nat)) : Int), 3)) := Lib.hid (by rw [← HG.out, goT_bad HXE.out (stepT_no HSF.out.symm), HL.out]; simp)
        have HRD : Hid (∀ W', Errs W' → Tab W'.heap.size W' → Calls Tryd.prog 36 #[.string ⟨ln.toArray⟩] W' fun e w'' => ∃ p : Ev, e = .returned (.tuple #[.agg #[.int .i64 p.t, .int .i64 p.k, .int .i64 p.n, .int .i64 p.a, .int .i64 p.p, .int .i64 p.r], .bool (rdE ln).isSome]) ∧ Below W'.heap.size W' w'') := Lib.hid fun W' g1 g2 => by
          refine (trace_read ln W' ⟨g1, g2, by omega⟩).mono ?_
          rintro e w'' ⟨p, rfl, _, hb⟩
          exact ⟨p, rfl, hb⟩
        generalize (rdE ln).isSome = bb at *
        gi_wp2_with (first | (refine ⟨trivial, ?_⟩; gi_at_call 35; refine (CallsIn.inRound l (callsIn_wide.2 (HCS.out _))).mono ?_; rintro e w1 ⟨rfl, rfl⟩) | (refine ⟨trivial, ?_⟩; gi_at_call 36; refine (CallsIn.inRound l (callsIn_wide.2 (HRD.out _ HE1.out HT1.out))).mono ?_; rintro e2 w2 ⟨p, rfl, hb⟩; have HB2 := Lib.hid hb; clear hb))
        have HLO2 : Hid (LoP base [b4] W w2) := Lib.hid (HL1.out.trans (LoP.of_below HB2.out hs1))
        obtain ⟨W3, hW3⟩ : ∃ W, w2.alloc (.cells #[.int .i64 p.t, .int .i64 p.k, .int .i64 p.n, .int .i64 p.a, .int .i64 p.p, .int .i64 p.r] 40) = W := ⟨_, rfl⟩
        have sW3 := ev_box w2 p
        have hbW3 := below_box w2 (.cells #[.int .i64 p.t, .int .i64 p.k, .int .i64 p.n, .int .i64 p.a, .int .i64 p.p, .int .i64 p.r] 40)
        rw [hW3] at sW3 hbW3 ⊢
        clear hW3
        obtain ⟨s0, s1, s2, s3, s4, s5⟩ := sW3
        simp only [Nat.zero_add] at s1 s2 s3 s4 s5
        have hs2 : base ≤ w2.heap.size := Nat.le_trans hs1 HB2.out.size
        have HLO : Hid (LoP base [b4] W W3) := Lib.hid (HLO2.out.trans (LoP.of_below hbW3 hs2))
        have HV3 : Hid (Boxed W3 b3 22 (.slice A k ca)) := Lib.hid (HLO.out.box HVB.out (by omega) (by simp; omega))
        have HN3 : Hid (Boxed W3 b4 3 (.int .i64 ((k : Int) + 1))) := Lib.hid (Boxed.kept (Boxed.kept HN1.out (grown_below HB2.out none) (fun e => by cases e)) (grown_below hbW3 none) (fun e => by cases e))
        have hs3 : base ≤ W3.heap.size := Nat.le_trans hs2 hbW3.size
        have HRW3 : Hid (W3.ownsRow base 40 6 (.slice A k ca) k (evL L)) := Lib.hid (own_up (own_up (own_set HROW.out (by omega) _) HB2.out) hbW3)
        have c3 := HV3.out.cell
        have f3 := HV3.out.frozen
        have c4 := HN3.out.cell
        clear hbW3
        have kq_c3 := cell_regrown c3
        have kq_c4 := cell_regrown c4
        refine wpIn_region_quietR (by kernel_rfl) (by kernel_rfl) (by kernel_rfl) ?_
        repeat (gi_big_quiet_step (fail))
        refine wpQuietIn_nil ?_
        intro W4 hb4
        replace hb4 := below_of_regrown hb4
        clear kq_c3 kq_c4
        replace c3 := cell_up hb4 c3
        replace c4 := cell_up hb4 c4
        have HLO4 : Hid (LoP base [b4] W W4) := Lib.hid (HLO.out.trans (LoP.of_below hb4 hs3))
        have HR0 := Lib.hid (HLO4.out.box H0.out (by omega) (by simp; omega))
        have HR1 := Lib.hid (HLO4.out.box H1.out (by omega) (by simp; omega))
        have HR2 := Lib.hid (HLO4.out.box H2.out (by omega) (by simp; omega))
        have z0 := HR0.out.cell
        have y0 := HR0.out.frozen
        have z1 := HR1.out.cell
        have y1 := HR1.out.frozen
        have z2 := HR2.out.cell
        have y2 := HR2.out.frozen
        clear hb4
        gi_wp2
        gi_region
        all_goals gi_wp2
        all_goals have lo := (put3_lo (u0 := .slice none 0 0) (u1 := .int .i64 ((k : Int) + 1)) (u2 := .int .i64 3) HLO4.out HR0.out HR1.out HR2.out l0 l1).drew
        all_goals obtain ⟨p0, p1, p2⟩ := put3_box (u0 := .slice none 0 0) (u1 := .int .i64 ((k : Int) + 1)) (u2 := .int .i64 3) HR0.out HR1.out HR2.out l0 l1
        all_goals have ek : (((k + 1 : Nat)) : Int) = (k : Int) + 1 := by omega
        all_goals refine ⟨lo.keeps, .inl ⟨rfl, HVV.out, p0, by rw [ek]; exact p1, p2, lo.below HBW.out (by omega) (by simp; omega)⟩⟩
      | true =>
        cases hr : rdE ln with
        | none =>
          have HVV : Hid (V = ([], (((k + 1 : Nat)) : Int), 3)) := Lib.hid (by rw [← HG.out, goT_bad HXE.out (stepT_bad (by rw [← HLN.out]; exact hr)), HL.out]; simp)
          have HRD : Hid (∀ W', Errs W' → Tab W'.heap.size W' → Calls Tryd.prog 36 #[.string ⟨ln.toArray⟩] W' fun e w'' => ∃ p : Ev, e = .returned (.tuple #[.agg #[.int .i64 p.t, .int .i64 p.k, .int .i64 p.n, .int .i64 p.a, .int .i64 p.p, .int .i64 p.r], .bool false]) ∧ Below W'.heap.size W' w'') := Lib.hid fun W' g1 g2 => by
            refine (trace_read ln W' ⟨g1, g2, by omega⟩).mono ?_
            rintro e w'' ⟨p, rfl, _, hb⟩
            exact ⟨p, by rw [hr]; rfl, hb⟩
          clear hr
          gi_wp2_with (first | (refine ⟨trivial, ?_⟩; gi_at_call 35; refine (CallsIn.inRound l (callsIn_wide.2 (HCS.out _))).mono ?_; rintro e w1 ⟨rfl, rfl⟩) | (refine ⟨trivial, ?_⟩; gi_at_call 36; refine (CallsIn.inRound l (callsIn_wide.2 (HRD.out _ HE1.out HT1.out))).mono ?_; rintro e2 w2 ⟨p, rfl, hb⟩; have HB2 := Lib.hid hb; clear hb))
          have HLO2 : Hid (LoP base [b4] W w2) := Lib.hid (HL1.out.trans (LoP.of_below HB2.out hs1))
          obtain ⟨W3, hW3⟩ : ∃ W, w2.alloc (.cells #[.int .i64 p.t, .int .i64 p.k, .int .i64 p.n, .int .i64 p.a, .int .i64 p.p, .int .i64 p.r] 40) = W := ⟨_, rfl⟩
          have sW3 := ev_box w2 p
          have hbW3 := below_box w2 (.cells #[.int .i64 p.t, .int .i64 p.k, .int .i64 p.n, .int .i64 p.a, .int .i64 p.p, .int .i64 p.r] 40)
          rw [hW3] at sW3 hbW3 ⊢
          clear hW3
          obtain ⟨s0, s1, s2, s3, s4, s5⟩ := sW3
          simp only [Nat.zero_add] at s1 s2 s3 s4 s5
          have hs2 : base ≤ w2.heap.size := Nat.le_trans hs1 HB2.out.size
          have HLO : Hid (LoP base [b4] W W3) := Lib.hid (HLO2.out.trans (LoP.of_below hbW3 hs2))
          have HV3 : Hid (Boxed W3 b3 22 (.slice A k ca)) := Lib.hid (HLO.out.box HVB.out (by omega) (by simp; omega))
          have HN3 : Hid (Boxed W3 b4 3 (.int .i64 ((k : Int) + 1))) := Lib.hid (Boxed.kept (Boxed.kept HN1.out (grown_below HB2.out none) (fun e => by cases e)) (grown_below hbW3 none) (fun e => by cases e))
          have hs3 : base ≤ W3.heap.size := Nat.le_trans hs2 hbW3.size
          have HRW3 : Hid (W3.ownsRow base 40 6 (.slice A k ca) k (evL L)) := Lib.hid (own_up (own_up (own_set HROW.out (by omega) _) HB2.out) hbW3)
          have c3 := HV3.out.cell
          have f3 := HV3.out.frozen
          have c4 := HN3.out.cell
          clear hbW3
          have kq_c3 := cell_regrown c3
          have kq_c4 := cell_regrown c4
          refine wpIn_region_quietR (by kernel_rfl) (by kernel_rfl) (by kernel_rfl) ?_
          repeat (gi_big_quiet_step (fail))
          refine wpQuietIn_nil ?_
          intro W4 hb4
          replace hb4 := below_of_regrown hb4
          clear kq_c3 kq_c4
          replace c3 := cell_up hb4 c3
          replace c4 := cell_up hb4 c4
          have HLO4 : Hid (LoP base [b4] W W4) := Lib.hid (HLO.out.trans (LoP.of_below hb4 hs3))
          have HR0 := Lib.hid (HLO4.out.box H0.out (by omega) (by simp; omega))
          have HR1 := Lib.hid (HLO4.out.box H1.out (by omega) (by simp; omega))
          have HR2 := Lib.hid (HLO4.out.box H2.out (by omega) (by simp; omega))
          have z0 := HR0.out.cell
          have y0 := HR0.out.frozen
          have z1 := HR1.out.cell
          have y1 := HR1.out.frozen
          have z2 := HR2.out.cell
          have y2 := HR2.out.frozen
          clear hb4
          gi_wp2
          gi_region
          all_goals gi_wp2
          all_goals have lo := (put3_lo (u0 := .slice none 0 0) (u1 := .int .i64 ((k : Int) + 1)) (u2 := .int .i64 3) HLO4.out HR0.out HR1.out HR2.out l0 l1).drew
          all_goals obtain ⟨p0, p1, p2⟩ := put3_box (u0 := .slice none 0 0) (u1 := .int .i64 ((k : Int) + 1)) (u2 := .int .i64 3) HR0.out HR1.out HR2.out l0 l1
          all_goals have ek : (((k + 1 : Nat)) : Int) = (k : Int) + 1 := by omega
          all_goals refine ⟨lo.keeps, .inl ⟨rfl, HVV.out, p0, by rw [ek]; exact p1, p2, lo.below HBW.out (by omega) (by simp; omega)⟩⟩
        | some e =>
          have HRD : Hid (∀ W', Errs W' → Tab W'.heap.size W' → Calls Tryd.prog 36 #[.string ⟨ln.toArray⟩] W' fun x w'' => x = .returned (.tuple #[.agg #[.int .i64 e.t, .int .i64 e.k, .int .i64 e.n, .int .i64 e.a, .int .i64 e.p, .int .i64 e.r], .bool true]) ∧ Below W'.heap.size W' w'') := Lib.hid fun W' g1 g2 => by
            refine (trace_read ln W' ⟨g1, g2, by omega⟩).mono ?_
            rintro x w'' ⟨p, rfl, hp, hb⟩
            obtain rfl := hp e hr
            exact ⟨by rw [hr]; rfl, hb⟩
          have HR := Lib.hid hr
          clear hr
          gi_wp2_with (first | (refine ⟨trivial, ?_⟩; gi_at_call 35; refine (CallsIn.inRound l (callsIn_wide.2 (HCS.out _))).mono ?_; rintro e w1 ⟨rfl, rfl⟩) | (refine ⟨trivial, ?_⟩; gi_at_call 36; refine (CallsIn.inRound l (callsIn_wide.2 (HRD.out _ HE1.out HT1.out))).mono ?_; rintro e2 w2 ⟨rfl, hb⟩; have HB2 := Lib.hid hb; clear hb))
          have HLO2 : Hid (LoP base [b4] W w2) := Lib.hid (HL1.out.trans (LoP.of_below HB2.out hs1))
          obtain ⟨W3, hW3⟩ : ∃ W, w2.alloc (.cells #[.int .i64 e.t, .int .i64 e.k, .int .i64 e.n, .int .i64 e.a, .int .i64 e.p, .int .i64 e.r] 40) = W := ⟨_, rfl⟩
          have sW3 := ev_box w2 e
          have hbW3 := below_box w2 (.cells #[.int .i64 e.t, .int .i64 e.k, .int .i64 e.n, .int .i64 e.a, .int .i64 e.p, .int .i64 e.r] 40)
          rw [hW3] at sW3 hbW3 ⊢
          clear hW3
          obtain ⟨s0, s1, s2, s3, s4, s5⟩ := sW3
          simp only [Nat.zero_add] at s1 s2 s3 s4 s5
          have hs2 : base ≤ w2.heap.size := Nat.le_trans hs1 HB2.out.size
          have HLO : Hid (LoP base [b4] W W3) := Lib.hid (HLO2.out.trans (LoP.of_below hbW3 hs2))
          have HV3 : Hid (Boxed W3 b3 22 (.slice A k ca)) := Lib.hid (HLO.out.box HVB.out (by omega) (by simp; omega))
          have HN3 : Hid (Boxed W3 b4 3 (.int .i64 ((k : Int) + 1))) := Lib.hid (Boxed.kept (Boxed.kept HN1.out (grown_below HB2.out none) (fun e => by cases e)) (grown_below hbW3 none) (fun e => by cases e))
          have hs3 : base ≤ W3.heap.size := Nat.le_trans hs2 hbW3.size
          have HRW3 : Hid (W3.ownsRow base 40 6 (.slice A k ca) k (evL L)) := Lib.hid (own_up (own_up (own_set HROW.out (by omega) _) HB2.out) hbW3)
          have c3 := HV3.out.cell
          have f3 := HV3.out.frozen
          have c4 := HN3.out.cell
          clear hbW3
          by_cases hk0 : k = 0
          · have kz1 : decide ((0 : Int) < (k : Int)) = false := by simp; omega
            have kz2 : decide (0 < k) = false := by simp; omega
            have HGO : Hid (goT (ps.drop (k + 1)) (L ++ [e]) = V) := Lib.hid (by
              rw [← HG.out]
              refine (goT_good HXE.out (stepT_good HSF.out.symm (by rw [← HLN.out]; exact HR.out) ?_)).symm
              obtain rfl : L = [] := List.eq_nil_of_length_eq_zero (by rw [HL.out]; exact hk0)
              rfl)
            clear hk0
            have kq_c3 := cell_regrown c3
            have kq_c4 := cell_regrown c4
            have kq_s0 := cell_regrown s0
            have kq_s1 := cell_regrown s1
            have kq_s2 := cell_regrown s2
            have kq_s3 := cell_regrown s3
            have kq_s4 := cell_regrown s4
            have kq_s5 := cell_regrown s5
            refine wpIn_region_quietR (by kernel_rfl) (by kernel_rfl) (by kernel_rfl) ?_
            repeat (gi_big_quiet_step (fail))
            refine wpQuietIn_nil ?_
            intro W4 hb4
            replace hb4 := below_of_regrown hb4
            clear kq_c3 kq_c4 kq_s0 kq_s1 kq_s2 kq_s3 kq_s4 kq_s5
            replace c3 := cell_up hb4 c3
            replace c4 := cell_up hb4 c4
            replace s0 := cell_up hb4 s0
            replace s1 := cell_up hb4 s1
            replace s2 := cell_up hb4 s2
            replace s3 := cell_up hb4 s3
            replace s4 := cell_up hb4 s4
            replace s5 := cell_up hb4 s5
            have HLO4 : Hid (LoP base [b4] W W4) := Lib.hid (HLO.out.trans (LoP.of_below hb4 hs3))
            have HR4 := Lib.hid (own_up HRW3.out hb4)
            have HV4 := Lib.hid (Boxed.kept HV3.out (grown_below hb4 none) (fun e => by cases e))
            have HN4 : Hid (Boxed W4 b4 3 (.int .i64 ((k : Int) + 1))) := Lib.hid (Boxed.kept HN3.out (grown_below hb4 none) (fun e => by cases e))
            have hs4 : base ≤ W4.heap.size := Nat.le_trans hs3 hb4.size
            clear hb4
            gi_wp2_with (gi_at_builtin; refine wpListIn_append_own _ rfl _ _ 22 rfl base 40 i0 (.agg #[.int .i64 0, .int .i64 0, .int .i64 0, .int .i64 0, .int .i64 0, .int .i64 0]) 6 48 Tryd.underlying22 hi hz0 hz1 hz2 rfl (by decide) _ _ _ rfl (HR4.out.alloc _) ⟨_, 0, none⟩ 1 1 [.int .i64 e.t, .int .i64 e.k, .int .i64 e.n, .int .i64 e.a, .int .i64 e.p, .int .i64 e.r] rfl rfl (cells_new _ _ _ _ (by simp)) ?_ ?_ ?_ ?_ ?_)
            · first | exact ⟨rfl, rfl, rfl, rfl, rfl, rfl⟩ | (intro u hu; simp at hu; rcases hu with rfl | rfl | rfl | rfl | rfl | rfl <;> rfl)
            · unfold maxLen; omega
            · omega
            · first | omega | (simp; omega)
            · intro v' w5 hown' hgrow _
              obtain ⟨g', cap', rfl⟩ := ownsRow_succ hown'
              have HLO5 := Lib.hid ((HLO4.out.mono (Y := [b3, b4]) (fun b hb => by simp at hb; simp [hb])).trans (LoP.append HR4.out hgrow hs4))
              have h3 := (Boxed.alloc HV4.out _).kept hgrow (fun e => by have := (HR4.out.lt _ e.symm).1; omega)
              have HN5 := Lib.hid (show Boxed w5 b4 3 (.int .i64 ((k : Int) + 1)) from (HN4.out.alloc _).kept hgrow (fun e => by have := (HR4.out.lt _ e.symm).1; omega))
              have c5 := h3.cell
              have f5 := h3.frozen
              have H3 := Lib.hid h3
              have HO2 := Lib.hid (own_set (B := b3) hown' (by omega) (.slice (some ⟨g', 0, none⟩) (k + 1) cap'))
              clear hgrow h3 hown'
              gi_wp2
              have lo := HLO5.out.trans (LoP.set H3.out (by simp) (.slice (some ⟨g', 0, none⟩) (k + 1) cap'))
              have ek : (((k + 1 : Nat)) : Int) = (k : Int) + 1 := by omega
              refine ⟨lo.keeps, ⟨lo.blk _ (by omega) (by simp; omega), lo.blk _ (by omega) (by simp; omega), lo.blk _ (by omega) (by simp; omega)⟩, L ++ [e], HGO.out, by rw [List.length_append, HL.out]; rfl, ⟨_, H3.out.set _, ?_⟩, ?_, lo.box H0.out (by omega) (by simp; omega), lo.box H1.out (by omega) (by simp; omega), lo.box H2.out (by omega) (by simp; omega), lo.below HBW.out (by omega) (by simp; omega), Nat.le_trans hsb lo.size⟩
              · simp only; rw [List.length_append, HL.out, evL_snoc]; exact HO2.out
              · simp only; rw [ek]; exact HN5.out.other (by omega) _
          · obtain ⟨d, hd⟩ : ∃ d, L[k - 1]? = some d := ⟨_, List.getElem?_eq_getElem (by rw [HL.out]; omega)⟩
            have HLT := Lib.hid (late_last (k := k - 1) (by rw [HL.out]; omega) hd e)
            obtain ⟨A', ca', he', _, _, hrd3⟩ := rde_of_own (l := L) (by rw [HL.out]; exact HRW3.out)
            obtain rfl : A = A' := by injection he' with h _ _
            obtain ⟨g, og, d', rfl, hd', hcd⟩ := hrd3.at_ (k := k - 1) (by rw [HL.out]; omega)
            clear he' hrd3
            obtain rfl : d' = d := by rw [hd] at hd'; injection hd' with h; exact h.symm
            have d0 : W3.cell? ⟨g, og + (k - 1) * 6, none⟩ = some (.int .i64 d'.t) := hcd.q0
            clear hd hd' hcd
            have kz1 : decide ((0 : Int) < (k : Int)) = true := by simp; omega
            have kz2 : decide (0 < k) = true := by simp; omega
            have kz3 : (0 : Int) ≤ (k : Int) - 1 := by omega
            have kz4 : (1 : Int) ≤ (k : Int) := by omega
            have kz5 : (k : Int) - 1 < (k : Int) := by omega
            by_cases hl : e.t < d'.t
            · have HVV : Hid (V = ([], (((k + 1 : Nat)) : Int), 3)) := Lib.hid (by rw [← HG.out, goT_bad HXE.out (stepT_late (by rw [← HLN.out]; exact HR.out) (by rw [HLT.out]; simpa using hl)), HL.out]; simp)
              have kq_c3 := cell_regrown c3
              have kq_c4 := cell_regrown c4
              have kq_s0 := cell_regrown s0
              have kq_d0 := cell_regrown d0
              refine wpIn_region_quietR (by kernel_rfl) (by kernel_rfl) (by kernel_rfl) ?_
              repeat (gi_big_quiet_step (fail))
              refine wpQuietIn_nil ?_
              intro W4 hb4
              replace hb4 := below_of_regrown hb4
              clear kq_c3 kq_c4 kq_s0 kq_d0
              replace c3 := cell_up hb4 c3
              replace c4 := cell_up hb4 c4
              replace s0 := cell_up hb4 s0
              replace d0 := cell_up hb4 d0
              have HLO4 : Hid (LoP base [b4] W W4) := Lib.hid (HLO.out.trans (LoP.of_below hb4 hs3))
              have HR0 := Lib.hid (HLO4.out.box H0.out (by omega) (by simp; omega))
              have HR1 := Lib.hid (HLO4.out.box H1.out (by omega) (by simp; omega))
              have HR2 := Lib.hid (HLO4.out.box H2.out (by omega) (by simp; omega))
              have z0 := HR0.out.cell
              have y0 := HR0.out.frozen
              have z1 := HR1.out.cell
              have y1 := HR1.out.frozen
              have z2 := HR2.out.cell
              have y2 := HR2.out.frozen
              clear hb4
              gi_wp2
              gi_region
              all_goals gi_wp2
              all_goals have lo := (put3_lo (u0 := .slice none 0 0) (u1 := .int .i64 ((k : Int) + 1)) (u2 := .int .i64 3) HLO4.out HR0.out HR1.out HR2.out l0 l1).drew
              all_goals obtain ⟨p0, p1, p2⟩ := put3_box (u0 := .slice none 0 0) (u1 := .int .i64 ((k : Int) + 1)) (u2 := .int .i64 3) HR0.out HR1.out HR2.out l0 l1
              all_goals have ek : (((k + 1 : Nat)) : Int) = (k : Int) + 1 := by omega
              all_goals refine ⟨lo.keeps, .inl ⟨rfl, HVV.out, p0, by rw [ek]; exact p1, p2, lo.below HBW.out (by omega) (by simp; omega)⟩⟩
            · have HGO : Hid (goT (ps.drop (k + 1)) (L ++ [e]) = V) := Lib.hid (by
                rw [← HG.out]
                exact (goT_good HXE.out (stepT_good HSF.out.symm (by rw [← HLN.out]; exact HR.out) (by rw [HLT.out]; simpa using hl))).symm)
              have kq_c3 := cell_regrown c3
              have kq_c4 := cell_regrown c4
              have kq_s0 := cell_regrown s0
              have kq_s1 := cell_regrown s1
              have kq_s2 := cell_regrown s2
              have kq_s3 := cell_regrown s3
              have kq_s4 := cell_regrown s4
              have kq_s5 := cell_regrown s5
              have kq_d0 := cell_regrown d0
              refine wpIn_region_quietR (by kernel_rfl) (by kernel_rfl) (by kernel_rfl) ?_
              repeat (gi_big_quiet_step (fail))
              refine wpQuietIn_nil ?_
              intro W4 hb4
              replace hb4 := below_of_regrown hb4
              clear kq_c3 kq_c4 kq_s0 kq_s1 kq_s2 kq_s3 kq_s4 kq_s5 kq_d0
              replace c3 := cell_up hb4 c3
              replace c4 := cell_up hb4 c4
              replace s0 := cell_up hb4 s0
              replace s1 := cell_up hb4 s1
              replace s2 := cell_up hb4 s2
              replace s3 := cell_up hb4 s3
              replace s4 := cell_up hb4 s4
              replace s5 := cell_up hb4 s5
              replace d0 := cell_up hb4 d0
              have HLO4 : Hid (LoP base [b4] W W4) := Lib.hid (HLO.out.trans (LoP.of_below hb4 hs3))
              have HR4 := Lib.hid (own_up HRW3.out hb4)
              have HV4 := Lib.hid (Boxed.kept HV3.out (grown_below hb4 none) (fun e => by cases e))
              have HN4 : Hid (Boxed W4 b4 3 (.int .i64 ((k : Int) + 1))) := Lib.hid (Boxed.kept HN3.out (grown_below hb4 none) (fun e => by cases e))
              have hs4 : base ≤ W4.heap.size := Nat.le_trans hs3 hb4.size
              clear hb4
              gi_wp2_with (gi_at_builtin; refine wpListIn_append_own _ rfl _ _ 22 rfl base 40 i0 (.agg #[.int .i64 0, .int .i64 0, .int .i64 0, .int .i64 0, .int .i64 0, .int .i64 0]) 6 48 Tryd.underlying22 hi hz0 hz1 hz2 rfl (by decide) _ _ _ rfl (HR4.out.alloc _) ⟨_, 0, none⟩ 1 1 [.int .i64 e.t, .int .i64 e.k, .int .i64 e.n, .int .i64 e.a, .int .i64 e.p, .int .i64 e.r] rfl rfl (cells_new _ _ _ _ (by simp)) ?_ ?_ ?_ ?_ ?_)
              · first | exact ⟨rfl, rfl, rfl, rfl, rfl, rfl⟩ | (intro u hu; simp at hu; rcases hu with rfl | rfl | rfl | rfl | rfl | rfl <;> rfl)
              · unfold maxLen; omega
              · omega
              · first | omega | (simp; omega)
              · intro v' w5 hown' hgrow _
                obtain ⟨g', cap', rfl⟩ := ownsRow_succ hown'
                have HLO5 := Lib.hid ((HLO4.out.mono (Y := [b3, b4]) (fun b hb => by simp at hb; simp [hb])).trans (LoP.append HR4.out hgrow hs4))
                have h3 := (Boxed.alloc HV4.out _).kept hgrow (fun e => by have := (HR4.out.lt _ e.symm).1; omega)
                have HN5 := Lib.hid (show Boxed w5 b4 3 (.int .i64 ((k : Int) + 1)) from (HN4.out.alloc _).kept hgrow (fun e => by have := (HR4.out.lt _ e.symm).1; omega))
                have c5 := h3.cell
                have f5 := h3.frozen
                have H3 := Lib.hid h3
                have HO2 := Lib.hid (own_set (B := b3) hown' (by omega) (.slice (some ⟨g', 0, none⟩) (k + 1) cap'))
                clear hgrow h3 hown'
                gi_wp2
                have lo := HLO5.out.trans (LoP.set H3.out (by simp) (.slice (some ⟨g', 0, none⟩) (k + 1) cap'))
                have ek : (((k + 1 : Nat)) : Int) = (k : Int) + 1 := by omega
                refine ⟨lo.keeps, ⟨lo.blk _ (by omega) (by simp; omega), lo.blk _ (by omega) (by simp; omega), lo.blk _ (by omega) (by simp; omega)⟩, L ++ [e], HGO.out, by rw [List.length_append, HL.out]; rfl, ⟨_, H3.out.set _, ?_⟩, ?_, lo.box H0.out (by omega) (by simp; omega), lo.box H1.out (by omega) (by simp; omega), lo.box H2.out (by omega) (by simp; omega), lo.below HBW.out (by omega) (by simp; omega), Nat.le_trans hsb lo.size⟩
                · simp only; rw [List.length_append, HL.out, evL_snoc]; exact HO2.out
                · simp only; rw [ek]; exact HN5.out.other (by omega) _
  case done =>
    rintro D W hD ⟨L, hg, hl, ⟨v, hv, hrow⟩, hn, h0, h1, h2, hB, hsb⟩ hK
    rw [List.drop_length] at hg
    simp only at hv hrow hn
    obtain ⟨A, ca, rfl, hca1, hca2, hrd⟩ := rde_of_own hrow
    have HVV : Hid (V = (L, 0, 0)) := Lib.hid (by rw [← hg]; rfl)
    clear hg hl
    have c3 := hv.cell
    have z0 := h0.cell
    have y0 := h0.frozen
    have z1 := h1.cell
    have y1 := h1.frozen
    have z2 := h2.cell
    have y2 := h2.frozen
    have HROW := Lib.hid hrow
    have H0 := Lib.hid h0
    have H1 := Lib.hid h1
    have H2 := Lib.hid h2
    have HBW := Lib.hid hB
    have HK := Lib.hid hK
    clear hrow hv h0 h1 h2 hB hK hn hrd
    gi_wp2
    have lo := put3_lo (base := base) (u0 := .slice A L.length ca) (u1 := .int .i64 0) (u2 := .int .i64 0) (LoP.refl base [] W) H0.out H1.out H2.out l0 l1
    obtain ⟨p0, p1, p2⟩ := put3_box (u0 := .slice A L.length ca) (u1 := .int .i64 0) (u2 := .int .i64 0) H0.out H1.out H2.out l0 l1
    have k1 := lo.oth D _ HK.out rfl
    have q0 : Boxed ((Put3 b0 b1 b2 W (.slice A L.length ca) (.int .i64 0) (.int .i64 0)).putObj D (.deferred none)) b0 22 (.slice A L.length ca) := (World.putObj_heap_other (by omega)).trans p0
    have q1 : Boxed ((Put3 b0 b1 b2 W (.slice A L.length ca) (.int .i64 0) (.int .i64 0)).putObj D (.deferred none)) b1 3 (.int .i64 0) := (World.putObj_heap_other (by omega)).trans p1
    have q2 : Boxed ((Put3 b0 b1 b2 W (.slice A L.length ca) (.int .i64 0) (.int .i64 0)).putObj D (.deferred none)) b2 24 (.int .i64 0) := (World.putObj_heap_other (by omega)).trans p2
    have r1 := ownsRow_putObj (own_set (B := b2) (own_set (B := b1) (own_set (B := b0) HROW.out (by omega) (.slice A L.length ca)) (by omega) (.int .i64 0)) (by omega) (.int .i64 0)) (.deferred none) k1 rfl
    have hb2 : Below b0 w ((Put3 b0 b1 b2 W (.slice A L.length ca) (.int .i64 0) (.int .i64 0)).putObj D (.deferred none)) := (lo.below HBW.out (by omega) (by simp; omega)).trans (belowK_b (w := w) hbw _ D _ _ (by omega) k1 rfl rfl)
    refine ⟨by simp, .inl ⟨_, _, rfl, run_takeDeferred k1, ?_⟩⟩
    have e0 := q0.cell
    have e1 := q1.cell
    have e2 := q2.cell
    unfold Put3 at e0 e1 e2
    exact ⟨.tuple #[.slice A L.length ca, .int .i64 0, .int .i64 0], by simp [results, Tryd.results14, go_sem, e0, e1, e2], by rw [HVV.out]; exact retEP_of r1 (HBE.out ▸ hb2)⟩
  case stop =>
    rintro D c k W hD hk (⟨rfl, hVe, h0, h1, h2, hB⟩ | ⟨L, rfl, hVe, hl, ⟨v, hv, hrow⟩, hn, h0, h1, h2, hB, hsb⟩) hK
    · have HVV := Lib.hid hVe
      clear hVe
      gi_wp2
      refine ⟨by simp, .inl ⟨_, _, rfl, run_takeDeferred hK, ?_⟩⟩
      have e0 := (show Boxed (W.putObj D (.deferred none)) b0 22 (.slice none 0 0) from (World.putObj_heap_other (by omega)).trans h0).cell
      have e1 := (show Boxed (W.putObj D (.deferred none)) b1 3 (.int .i64 (k : Int)) from (World.putObj_heap_other (by omega)).trans h1).cell
      have e2 := (show Boxed (W.putObj D (.deferred none)) b2 24 (.int .i64 3) from (World.putObj_heap_other (by omega)).trans h2).cell
      exact ⟨.tuple #[.slice none 0 0, .int .i64 (k : Int), .int .i64 3], by simp [results, Tryd.results14, go_sem, e0, e1, e2], by rw [HVV.out]; exact retEP_nil (HBE.out ▸ hB.trans (belowK_b (w := w) hbw _ D _ _ (by omega) hK rfl rfl))⟩
    · simp only at hv hrow hn
      obtain ⟨A, ca, rfl, hca1, hca2, hrd⟩ := rde_of_own hrow
      have HVV := Lib.hid hVe
      clear hVe hl
      have c3 := hv.cell
      have z0 := h0.cell
      have y0 := h0.frozen
      have z1 := h1.cell
      have y1 := h1.frozen
      have z2 := h2.cell
      have y2 := h2.frozen
      have HROW := Lib.hid hrow
      have H0 := Lib.hid h0
      have H1 := Lib.hid h1
      have H2 := Lib.hid h2
      have HBW := Lib.hid hB
      have HK := Lib.hid hK
      clear hrow hv h0 h1 h2 hB hK hn hrd
      gi_wp2
      have lo := put3_lo (base := base) (u0 := .slice A L.length ca) (u1 := .int .i64 0) (u2 := .int .i64 0) (LoP.refl base [] W) H0.out H1.out H2.out l0 l1
      obtain ⟨p0, p1, p2⟩ := put3_box (u0 := .slice A L.length ca) (u1 := .int .i64 0) (u2 := .int .i64 0) H0.out H1.out H2.out l0 l1
      have k1 := lo.oth D _ HK.out rfl
      have q0 : Boxed ((Put3 b0 b1 b2 W (.slice A L.length ca) (.int .i64 0) (.int .i64 0)).putObj D (.deferred none)) b0 22 (.slice A L.length ca) := (World.putObj_heap_other (by omega)).trans p0
      have q1 : Boxed ((Put3 b0 b1 b2 W (.slice A L.length ca) (.int .i64 0) (.int .i64 0)).putObj D (.deferred none)) b1 3 (.int .i64 0) := (World.putObj_heap_other (by omega)).trans p1
      have q2 : Boxed ((Put3 b0 b1 b2 W (.slice A L.length ca) (.int .i64 0) (.int .i64 0)).putObj D (.deferred none)) b2 24 (.int .i64 0) := (World.putObj_heap_other (by omega)).trans p2
      have r1 := ownsRow_putObj (own_set (B := b2) (own_set (B := b1) (own_set (B := b0) HROW.out (by omega) (.slice A L.length ca)) (by omega) (.int .i64 0)) (by omega) (.int .i64 0)) (.deferred none) k1 rfl
      have hb2 : Below b0 w ((Put3 b0 b1 b2 W (.slice A L.length ca) (.int .i64 0) (.int .i64 0)).putObj D (.deferred none)) := (lo.below HBW.out (by omega) (by simp; omega)).trans (belowK_b (w := w) hbw _ D _ _ (by omega) k1 rfl rfl)
      refine ⟨by simp, .inl ⟨_, _, rfl, run_takeDeferred k1, ?_⟩⟩
      have e0 := q0.cell
      have e1 := q1.cell
      have e2 := q2.cell
      unfold Put3 at e0 e1 e2
      exact ⟨.tuple #[.slice A L.length ca, .int .i64 0, .int .i64 0], by simp [results, Tryd.results14, go_sem, e0, e1, e2], by rw [HVV.out]; exact retEP_of r1 (HBE.out ▸ hb2)⟩

end Go.Proofs.YtjcnjnonhncelaaDoor
