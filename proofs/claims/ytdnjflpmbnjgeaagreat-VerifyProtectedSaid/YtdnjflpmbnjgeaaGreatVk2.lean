/-
  verify.Check: what its rounds keep (printed by gen_vk2.py).
-/
import Derived.Test.YtdnjflpmbnjgeaaGreatPkRz
import Derived.Test.YtdnjflpmbnjgeaaGreatGp
set_option linter.unusedSimpArgs false
set_option linter.unusedVariables false
namespace Go.Proofs.YtdnjflpmbnjgeaaGreat
section
open Go.RowKit Go.Sort
theorem vioInfo : (Tryz.prog.info? 51).map (fun i => (i.zero, i.size, i.bytes)) = some (some (.agg #[.int .i64 0, .int .i64 0]), 2, 16) := by kernel_rfl
/-- The eleven rules as func values that hold the checker. -/
def rulesV (cb : Nat) : Array Value := #[.func (.func 17) #[.pointer (some ⟨cb, 0, none⟩)] #[], .func (.func 18) #[.pointer (some ⟨cb, 0, none⟩)] #[], .func (.func 19) #[.pointer (some ⟨cb, 0, none⟩)] #[], .func (.func 20) #[.pointer (some ⟨cb, 0, none⟩)] #[], .func (.func 21) #[.pointer (some ⟨cb, 0, none⟩)] #[], .func (.func 22) #[.pointer (some ⟨cb, 0, none⟩)] #[], .func (.func 23) #[.pointer (some ⟨cb, 0, none⟩)] #[], .func (.func 24) #[.pointer (some ⟨cb, 0, none⟩)] #[], .func (.func 25) #[.pointer (some ⟨cb, 0, none⟩)] #[], .func (.func 26) #[.pointer (some ⟨cb, 0, none⟩)] #[], .func (.func 27) #[.pointer (some ⟨cb, 0, none⟩)] #[]]
theorem idx11_0 (a0 a1 a2 a3 a4 a5 a6 a7 a8 a9 a10 : Value) (w : World) : (Instr.index 74 (.agg #[a0, a1, a2, a3, a4, a5, a6, a7, a8, a9, a10]) (.int .i64 0)).run Tryz.prog w = .ok a0 w := by kernel_rfl
theorem idx11_1 (a0 a1 a2 a3 a4 a5 a6 a7 a8 a9 a10 : Value) (w : World) : (Instr.index 74 (.agg #[a0, a1, a2, a3, a4, a5, a6, a7, a8, a9, a10]) (.int .i64 1)).run Tryz.prog w = .ok a1 w := by kernel_rfl
theorem idx11_2 (a0 a1 a2 a3 a4 a5 a6 a7 a8 a9 a10 : Value) (w : World) : (Instr.index 74 (.agg #[a0, a1, a2, a3, a4, a5, a6, a7, a8, a9, a10]) (.int .i64 2)).run Tryz.prog w = .ok a2 w := by kernel_rfl
theorem idx11_3 (a0 a1 a2 a3 a4 a5 a6 a7 a8 a9 a10 : Value) (w : World) : (Instr.index 74 (.agg #[a0, a1, a2, a3, a4, a5, a6, a7, a8, a9, a10]) (.int .i64 3)).run Tryz.prog w = .ok a3 w := by kernel_rfl
theorem idx11_4 (a0 a1 a2 a3 a4 a5 a6 a7 a8 a9 a10 : Value) (w : World) : (Instr.index 74 (.agg #[a0, a1, a2, a3, a4, a5, a6, a7, a8, a9, a10]) (.int .i64 4)).run Tryz.prog w = .ok a4 w := by kernel_rfl
theorem idx11_5 (a0 a1 a2 a3 a4 a5 a6 a7 a8 a9 a10 : Value) (w : World) : (Instr.index 74 (.agg #[a0, a1, a2, a3, a4, a5, a6, a7, a8, a9, a10]) (.int .i64 5)).run Tryz.prog w = .ok a5 w := by kernel_rfl
theorem idx11_6 (a0 a1 a2 a3 a4 a5 a6 a7 a8 a9 a10 : Value) (w : World) : (Instr.index 74 (.agg #[a0, a1, a2, a3, a4, a5, a6, a7, a8, a9, a10]) (.int .i64 6)).run Tryz.prog w = .ok a6 w := by kernel_rfl
theorem idx11_7 (a0 a1 a2 a3 a4 a5 a6 a7 a8 a9 a10 : Value) (w : World) : (Instr.index 74 (.agg #[a0, a1, a2, a3, a4, a5, a6, a7, a8, a9, a10]) (.int .i64 7)).run Tryz.prog w = .ok a7 w := by kernel_rfl
theorem idx11_8 (a0 a1 a2 a3 a4 a5 a6 a7 a8 a9 a10 : Value) (w : World) : (Instr.index 74 (.agg #[a0, a1, a2, a3, a4, a5, a6, a7, a8, a9, a10]) (.int .i64 8)).run Tryz.prog w = .ok a8 w := by kernel_rfl
theorem idx11_9 (a0 a1 a2 a3 a4 a5 a6 a7 a8 a9 a10 : Value) (w : World) : (Instr.index 74 (.agg #[a0, a1, a2, a3, a4, a5, a6, a7, a8, a9, a10]) (.int .i64 9)).run Tryz.prog w = .ok a9 w := by kernel_rfl
theorem idx11_10 (a0 a1 a2 a3 a4 a5 a6 a7 a8 a9 a10 : Value) (w : World) : (Instr.index 74 (.agg #[a0, a1, a2, a3, a4, a5, a6, a7, a8, a9, a10]) (.int .i64 10)).run Tryz.prog w = .ok a10 w := by kernel_rfl
/-- A row in memory between two bounds. -/
def RdZ (L B : Nat) (w : World) (A : Option Addr) (xs : List Value) : Prop := xs = [] ∨ ∃ b o, A = some ⟨b, o, none⟩ ∧ L ≤ b ∧ b < B ∧ ∀ j u, xs[j]? = some u → w.cell? ⟨b, o + j, none⟩ = some u
section
variable {L B : Nat} {w w' : World} {A : Option Addr} {xs : List Value}
theorem RdZ.rd (h : RdZ L B w A xs) : Rd w A xs := by
 rcases h with h | ⟨b, o, hA, _, _, hc⟩
 ·exact .inl h
 ·exact .inr ⟨b, o, hA, hc⟩
theorem RdZ.upB (h : RdZ L B w A xs) (hb : Below B w w') : RdZ L B w' A xs := by
 rcases h with h | ⟨b, o, hA, h1, h2, hc⟩
 ·exact .inl h
 ·exact .inr ⟨b, o, hA, h1, h2, fun j u hu => (World.cell?_of_block (w := w) (hb.block b h2)).trans (hc j u hu)⟩
theorem RdZ.kp {X : List Nat} (h : RdZ L B w A xs) (hK : Kp X w w') (hX : ∀ k ∈ X, k < L) (hB : B ≤ w.heap.size) : RdZ L B w' A xs := by
 rcases h with h | ⟨b, o, hA, h1, h2, hc⟩
 ·exact .inl h
 ·exact .inr ⟨b, o, hA, h1, h2, fun j u hu => (World.cell?_of_block (w := w) (hK.blk b (by omega) (fun hm => by have := hX b hm; omega))).trans (hc j u hu)⟩
theorem RdZ.mono {B' : Nat} (h : RdZ L B w A xs) (hB : B ≤ B') : RdZ L B' w A xs := by
 rcases h with h | ⟨b, o, hA, h1, h2, hc⟩
 ·exact .inl h
 ·exact .inr ⟨b, o, hA, h1, by omega, hc⟩
theorem RdZ.mk' (h : Rd w A xs) (hA : ∀ p, A = some p → L ≤ p.block) (hB : w.heap.size ≤ B) : RdZ L B w A xs := by
 rcases h with h | ⟨b, o, rfl, hc⟩
 ·exact .inl h
 ·match xs, hc with
  | [], _ => exact .inl rfl
  | x :: r, hc =>
   have h1 := hc 0 x rfl
   have hlt : b < w.heap.size := by
    rcases Nat.lt_or_ge b w.heap.size with h2 | h2
    ·exact h2
    ·simp [World.cell?, Array.getElem?_eq_none h2] at h1
   exact .inr ⟨b, o, rfl, hA _ rfl, by omega, hc⟩
end
/-- What the rounds over the events keep. -/
structure OpW (F : FaN) (ps : List PkN) (tr : List Ev) (A1 A2 O Ad : Option Addr) (c1 c2 co cd : Nat) (W0 : World) (b : CkB) (L B1 rb : Nat) (c : CkS) (v : Value) (l : List (Int × Int)) (X : World) : Prop where
 c : CkAt F A1 A2 O c1 c2 co (.slice Ad (uQ F).length cd) b (pkOf ps) (protV F tr ps) c X
 b0 : Below W0.heap.size W0 X
 z : RdZ L B1 X Ad ((uQ F).map Value.bool)
 r : Bl 74 rb (rulesV b.cb) X
 o : X.ownsRow B1 51 2 v l.length (l.flatMap vioL)
 hs : B1 ≤ X.heap.size
/-- What does not change. -/
structure OpC (W0 : World) (b : CkB) (L B1 rb : Nat) : Prop where
 lo : ∀ k ∈ b.L, W0.heap.size ≤ k
 hi : ∀ k ∈ b.L, k < L
 l1 : L ≤ B1
 rbB : rb < B1
 rl : L ≤ rb
 w0 : W0.heap.size ≤ B1
section
variable {F : FaN} {ps : List PkN} {tr : List Ev} {A1 A2 O Ad : Option Addr} {c1 c2 co cd : Nat} {W0 : World} {b : CkB} {L B1 rb : Nat} {c c' : CkS} {v v' : Value} {l l' : List (Int × Int)} {X Y : World}
theorem OpW.up (h : OpW F ps tr A1 A2 O Ad c1 c2 co cd W0 b L B1 rb c v l X) (hb : Below X.heap.size X Y) : OpW F ps tr A1 A2 O Ad c1 c2 co cd W0 b L B1 rb c v l Y :=
 ⟨h.c.up hb, bQ h.b0 hb, h.z.upB (hb.mono h.hs), h.r.up hb, own_up h.o hb, Nat.le_trans h.hs hb.size⟩
theorem OpW.app (h : OpW F ps tr A1 A2 O Ad c1 c2 co cd W0 b L B1 rb c v l X) (hc : OpC W0 b L B1 rb) (hb : Below B1 X Y) (ho : Y.ownsRow B1 51 2 v' l'.length (l'.flatMap vioL)) : OpW F ps tr A1 A2 O Ad c1 c2 co cd W0 b L B1 rb c v' l' Y :=
 ⟨h.c.upB hb (fun k hk => Nat.lt_of_lt_of_le (hc.hi k hk) hc.l1), h.b0.trans (hb.mono hc.w0), h.z.upB hb, (hb.block rb hc.rbB).trans h.r, ho, Nat.le_trans h.hs hb.size⟩
theorem OpW.see (h : OpW F ps tr A1 A2 O Ad c1 c2 co cd W0 b L B1 rb c v l X) (hc : OpC W0 b L B1 rb) (hK : Kp b.L X Y) (hC : CkAt F A1 A2 O c1 c2 co (.slice Ad (uQ F).length cd) b (pkOf ps) (protV F tr ps) c' Y) : OpW F ps tr A1 A2 O Ad c1 c2 co cd W0 b L B1 rb c' v l Y :=
 ⟨hC, hK.below h.b0 h.b0.size hc.lo, h.z.kp hK hc.hi h.hs, h.r.kp hK (fun hm => by have := hc.hi rb hm; have := hc.rl; omega), own_kpV h.o hK (fun k hk => Nat.lt_of_lt_of_le (hc.hi k hk) hc.l1), Nat.le_trans h.hs hK.size⟩
theorem vcells_new (w : World) (xs : List Value) (T : TypeId) (g : Nat) (hg : w.heap.size = g) : ∀ (j : Nat) (u : Value), xs[j]? = some u → (w.alloc (.cells xs.toArray T)).cell? ((⟨g, 0, none⟩ : Addr).add j) = some u := by
 intro j u hj
 subst hg
 have ea : ((⟨w.heap.size, 0, none⟩ : Addr).add j) = ⟨w.heap.size, j, none⟩ := by simp [Addr.add]; omega
 rw [ea, Lib.cell_of_heap (heap_alloc_new w _), List.getElem?_toArray]
 exact hj
theorem rules_at {W : World} {cb : Nat} (h : Bl 74 rb (rulesV cb) W) : W.cell? ⟨rb, 0, none⟩ = some (.func (.func 17) #[.pointer (some ⟨cb, 0, none⟩)] #[]) ∧ W.cell? ⟨rb, 1, none⟩ = some (.func (.func 18) #[.pointer (some ⟨cb, 0, none⟩)] #[]) ∧ W.cell? ⟨rb, 2, none⟩ = some (.func (.func 19) #[.pointer (some ⟨cb, 0, none⟩)] #[]) ∧ W.cell? ⟨rb, 3, none⟩ = some (.func (.func 20) #[.pointer (some ⟨cb, 0, none⟩)] #[]) ∧ W.cell? ⟨rb, 4, none⟩ = some (.func (.func 21) #[.pointer (some ⟨cb, 0, none⟩)] #[]) ∧ W.cell? ⟨rb, 5, none⟩ = some (.func (.func 22) #[.pointer (some ⟨cb, 0, none⟩)] #[]) ∧ W.cell? ⟨rb, 6, none⟩ = some (.func (.func 23) #[.pointer (some ⟨cb, 0, none⟩)] #[]) ∧ W.cell? ⟨rb, 7, none⟩ = some (.func (.func 24) #[.pointer (some ⟨cb, 0, none⟩)] #[]) ∧ W.cell? ⟨rb, 8, none⟩ = some (.func (.func 25) #[.pointer (some ⟨cb, 0, none⟩)] #[]) ∧ W.cell? ⟨rb, 9, none⟩ = some (.func (.func 26) #[.pointer (some ⟨cb, 0, none⟩)] #[]) ∧ W.cell? ⟨rb, 10, none⟩ = some (.func (.func 27) #[.pointer (some ⟨cb, 0, none⟩)] #[]) :=
 ⟨h.cell 0 rfl, h.cell 1 rfl, h.cell 2 rfl, h.cell 3 rfl, h.cell 4 rfl, h.cell 5 rfl, h.cell 6 rfl, h.cell 7 rfl, h.cell 8 rfl, h.cell 9 rfl, h.cell 10 rfl⟩
theorem hits_f {f : FaN} {ps : List PkN} {prot : Int → Bool} {fail : List Bool} {c : CkS} {e : Ev} {i k : Nat} (h : ruleV f ps prot fail c e k = false) : eZ f ps prot fail c e i (k + 1) = eZ f ps prot fail c e i k := by
 rw [eZ, h]; simp
theorem hits_t {f : FaN} {ps : List PkN} {prot : Int → Bool} {fail : List Bool} {c : CkS} {e : Ev} {i k : Nat} {j : Int} (h : ruleV f ps prot fail c e k = true) (hj : j = (k : Int) + 1) : eZ f ps prot fail c e i (k + 1) = eZ f ps prot fail c e i k ++ [((i : Int), j)] := by
 rw [eZ, h, hj]; rfl
theorem OpW.evt {eb : Nat} {cells : Array Value} {o : Obj} (h : OpW F ps tr A1 A2 O Ad c1 c2 co cd W0 b L B1 rb c v l X) (he : Bl 43 eb cells X) (hg : (X.alloc o).grownBy Y v.ownBlock) : Bl 43 eb cells Y :=
 (he.up (cQ X o)).grownV hg (own_neV (own_up h.o (cQ X o)) (he.up (cQ X o)) (by decide))
/-- One more at the end. -/
def SnocV (L' l : List (Int × Int)) (x : Int × Int) : Prop := L' = l ++ [x]
/-- A violation is appended. -/
theorem wpList_vio (w : World) (i k : Int) {ops : Array Oper} {rest : List Oper} {o : Oper} {a : Act} {Q : Exit → Act → World → Prop} (hgd : o.guard = none) (s x : Operand)
    (ho : o.op = .call { callee := .builtin .append, args := #[s, x], argTypes := #[44, 44] }) (B : Nat) (v : Value) (l : List (Int × Int)) (hs : a.eval s = v)
    (hown : w.ownsRow B 51 2 v l.length (l.flatMap vioL)) (hx : a.eval x = .slice (some ⟨w.heap.size, 0, none⟩) 1 1) (hl : l.length ≤ 10000000) (hB : B ≤ w.heap.size)
    (h : ∀ v' w' L', SnocV L' l (i, k) → w'.ownsRow B 51 2 v' L'.length (L'.flatMap vioL) → Below B w w' → (w.alloc (.cells #[.int .i64 i, .int .i64 k] 51)).grownBy w' v.ownBlock → wpList Tryz.prog ops Q rest (a.put o.dst v') w') :
    wpList Tryz.prog ops Q (o :: rest) a (w.alloc (.cells #[.int .i64 i, .int .i64 k] 51)) := by
 obtain ⟨i0, hi, hz0, hz1, hz2⟩ := info_parts vioInfo
 refine wpList_append_own _ hgd s x 44 ho B 51 i0 (.agg #[.int .i64 0, .int .i64 0]) 2 16 Tryz.underlying44 hi hz0 hz1 hz2 rfl (by decide) v l.length (l.flatMap vioL) hs (own_up hown (cQ _ _)) ⟨w.heap.size, 0, none⟩ 1 1 [.int .i64 i, .int .i64 k] hx rfl ?_ ?_ ?_ ?_ ?_ ?_
 ·exact vcells_new _ _ _ _ (by simp)
 ·intro u hu
  simp at hu
  rcases hu with rfl | rfl <;> rfl
 ·unfold maxLen; omega
 ·omega
 ·simp; omega
 ·intro v' w' h1 h2 _
  have h3 : w'.ownsRow B 51 2 v' (l ++ [(i, k)]).length ((l ++ [(i, k)]).flatMap vioL) := by
   rw [List.length_append, List.flatMap_append]
   simpa [vioL] using h1
  exact h v' w' _ rfl h3 (((Below.refl B w).alloc hB _).grown h2 (by simp; omega) (fun k hk => (hown.lt k hk).1)) h2
theorem wpList_vioR (w : World) (i k : Int) {ops : Array Oper} {rest : List Oper} {a : Act} {Q : Exit → Act → World → Prop} {d : Option Nat} {s x : Operand} {ty : TypeId} {po : String} {af : Array Edge} (B : Nat) (v : Value) (l : List (Int × Int))
    (hown : w.ownsRow B 51 2 v l.length (l.flatMap vioL)) (hl : l.length ≤ 10000000) (hB : B ≤ w.heap.size) (hs : a.eval s = v) (hx : a.eval x = .slice (some ⟨w.heap.size, 0, none⟩) 1 1)
    (h : ∀ v' w' L', SnocV L' l (i, k) → w'.ownsRow B 51 2 v' L'.length (L'.flatMap vioL) → Below B w w' → (w.alloc (.cells #[.int .i64 i, .int .i64 k] 51)).grownBy w' v.ownBlock → wpList Tryz.prog ops Q rest (a.put d v') w') :
    wpList Tryz.prog ops Q ({ dst := d, op := .call { callee := .builtin .append, args := #[s, x], argTypes := #[44, 44] }, type := ty, pos := po, after := af, guard := none } :: rest) a (w.alloc (.cells #[.int .i64 i, .int .i64 k] 51)) :=
 wpList_vio w i k rfl s x rfl B v l hs hown hx hl hB h
end
end
end Go.Proofs.YtdnjflpmbnjgeaaGreat
