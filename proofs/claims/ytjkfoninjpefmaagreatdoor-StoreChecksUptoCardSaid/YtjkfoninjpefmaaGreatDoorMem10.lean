/- A slice that is written out in a region whose order is left open. No program in sight. -/
import Derived.Test.YtjkfoninjpefmaaGreatDoorMem9
import Derived.Test.YtjkfoninjpefmaaGreatDoorRegion2
namespace Go.Proofs.YtjkfoninjpefmaaGreatDoor
set_option linter.unusedSimpArgs false
set_option linter.unusedVariables false
open Go.RowKit Res

section
variable {P : Program} {S : Nat → Prop} {w0 w : World} {l : List Res} {o : Oper} {a : Act} {K : Act → World → Prop} {Q : Exit → Act → World → Prop}
theorem wp_sliceX (M : Mem S w0 l w) {t e : TypeId} {sz bytes n : Nat} (E : ElemOf P t e sz bytes) (ps : Array (Nat × Operand)) (ho : o.op = .buildSlice t n ps) (C : List Value) (hp : Parts sz 0 (ps.toList.map fun p => (p.1, a.eval p.2)) C) (hn : ps.size = n) (h0 : 0 < n) (hsm : n * sz ≤ 16777216)
    (h : ∀ g w', Ext w w' → Mem S w0 (bx g e C :: l) w' → K (a.put o.dst (.slice (some ⟨g, 0, none⟩) n n)) w') : o.wp P a w K Q := by
  have M' := M.al e C
  obtain ⟨i, z, hi, hz, hsz, hby, hzs⟩ := E.info
  have hpos := E.pos
  have hze : (zeroValue e).run P w = .ok z w := by simp [zeroValue, typeInfo, hi, hz, Sem.run_bind]
  have hsi : (sizeOf e).run P w = .ok sz w := by simp [sizeOf, typeInfo, hi, hsz, Sem.run_bind]
  have hu := run_underlying E.under w
  have hfill : ∀ D : Array Value, D.size = n * sz → Instr.fill (fun i => some (i * sz, sz)) D (ps.toList.map fun p => (p.1, a.eval p.2)) = some C.toArray := fun D hD => by
    have := fill_parts hp [] D.toList (by simp) (by simp [hD, hn])
    simpa using this
  have hnz : 0 < n * sz := Nat.mul_pos h0 hpos
  unfold Oper.wp execOp
  simp only [ho, Instr.buildSlice, Sem.run_bind, hu, hsi, hze, Result.andThen_ok]
  rw [if_neg (show ¬ n * sz > 2 ^ 24 by omega), if_neg (show ¬ n * sz = 0 by omega)]
  simp only [Sem.run_bind, Sem.run_pure, hze, Result.andThen_ok]
  have e : (Array.map (fun (x : Nat × Operand) => (x.1, a.eval x.2)) ps).toList = ps.toList.map fun p => (p.1, a.eval p.2) := by simp
  have hfill' := hfill (Array.map (fun x => z.cells[x % z.cells.size]!) (Array.range (n * sz))) (by simp)
  rw [← e] at hfill'
  rw [hfill']
  go_simp
  exact h _ _ (Ext.al w _) M'
theorem Mem.ints (M : Mem S w0 l w) {g : Nat} {u : TypeId} {cells : List Value} {f : Res → List Res} (p : Pick l (bx g u cells) f) (cs : List Int) (h : cells = cs.map (Value.int .i64)) : ∀ k c, cs[k]? = some c → w.cell? ⟨g, k, none⟩ = some (.int .i64 c) := fun k c hk => by
  rw [(M.box p).cell, h]
  simp [hk]
theorem wp_allocX (M : Mem S w0 l w) (t : TypeId) (ho : o.op = .alloc t) (v : Value) (hz : (zeroValue t).run P w = .ok v w) (cs : List Value) (hco : CellsOf v cs)
    (h : ∀ g w', Ext w w' → Mem S w0 (bx g t cs :: l) w' → K (a.put o.dst (.pointer (some ⟨g, 0, none⟩))) w') : o.wp P a w K Q := by
  have M' := M.al t cs
  have hc := hco.eq
  unfold Oper.wp execOp
  simp only [ho, Instr.alloc, newVar, newRow, Sem.run_bind, hz, Result.andThen_ok, hc]
  go_simp
  exact h _ _ (Ext.al w _) M'
theorem wp_boxX (M : Mem S w0 l w) (t : TypeId) (x : Operand) (ho : o.op = .box t x) (cs : List Value) (hco : CellsOf (a.eval x) cs)
    (h : ∀ g w', Ext w w' → Mem S w0 (bx g t cs :: l) w' → K (a.put o.dst (.pointer (some ⟨g, 0, none⟩))) w') : o.wp P a w K Q := by
  have M' := M.al t cs
  have hc := hco.eq
  unfold Oper.wp execOp
  simp only [ho, Instr.box, newVar, newRow, hc]
  go_simp
  exact h _ _ (Ext.al w _) M'
end
section
variable {P : Program} {w0 w : World} {l : List Res} {Q : Exit → Act → World → Prop} {a a0 : Act} {B : Nat} {R : World → World → Prop}
variable {L : List Oper} {i j m : Nat} {sch : List (Nat × Bool)} {ss : List Nat} {dst : Option Tmp} {t ty : TypeId} {x : Operand} {pos : String} {after : Array Edge}
theorem sch_cellsX (ho : L[i]? = some (Oper.mk dst (.load t x) ty pos after none)) (g k : Nat) (hx : a.eval x = .pointer (some ⟨g, k, none⟩)) (cs : List Value) (hc : ∀ j u, cs[j]? = some u → w.cell? ⟨g, k + j, none⟩ = some u) (hg : g < B) (hn : RowT P t cs.length)
    (h : wpSch P L.toArray Q (keepX B a0 ss) m sch (a.put dst (.agg cs.toArray)) w) : wpSch P L.toArray Q (keepX B a0 ss) m ((i, true) :: sch) a w :=
  wpSch_q (.agg cs.toArray) ho rfl (fun w' hR => by
    unfold execOp
    simp only [hx, Instr.loadAt, Instr.sureAddr, Sem.run_bind, Sem.run_pure, Result.andThen_ok, run_loadVar_cells (w := w') hn (g := g) (i := k) (fun j' u hu => (World.cell?_of_block (w := w) (a := ⟨g, k + j', none⟩) (hR.2 g hg)).trans (hc j' u hu))]) h

theorem sch_cellsXG {gd : Option (Nat × Bool)} (ho : L[i]? = some (Oper.mk dst (.load t x) ty pos after gd)) (hw : Region.wanted (Oper.mk dst (.load t x) ty pos after gd) (yielded L.toArray a.tmps) = true) (g k : Nat) (hx : a.eval x = .pointer (some ⟨g, k, none⟩)) (cs : List Value) (hc : ∀ j u, cs[j]? = some u → w.cell? ⟨g, k + j, none⟩ = some u) (hg : g < B) (hn : RowT P t cs.length)
    (h : wpSch P L.toArray Q (keepX B a0 ss) m sch (a.put dst (.agg cs.toArray)) w) : wpSch P L.toArray Q (keepX B a0 ss) m ((i, true) :: sch) a w :=
  wpSch_q (.agg cs.toArray) ho hw (fun w' hR => by
    unfold execOp
    simp only [hx, Instr.loadAt, Instr.sureAddr, Sem.run_bind, Sem.run_pure, Result.andThen_ok, run_loadVar_cells (w := w') hn (g := g) (i := k) (fun j' u hu => (World.cell?_of_block (w := w) (a := ⟨g, k + j', none⟩) (hR.2 g hg)).trans (hc j' u hu))]) h
theorem Mem.ocs {S : Nat → Prop} {w0 w : World} {l : List Res} (M : Mem S w0 l w) {α : Type} {e : TypeId} {f : α → List Value} (sz k : Nat) {g c : Nat} {xs : List α} {F : Res → List Res} (p : Pick l (ow e f sz (some ⟨g, 0, none⟩) c xs) F) (hf : ∀ x, (f x).length = sz) {x : α} (hk : xs[k]? = some x) {cs : List Value} (hcs : f x = cs) (off : Nat) (ho : off = k * sz) :
    ∀ j u, cs[j]? = some u → w.cell? ⟨g, off + j, none⟩ = some u := fun j u hj => by
  obtain ⟨b, off', hA, -, -, hc⟩ := (M.own p).row.elem hf rfl hk
  injection hA with hA
  injection hA with e1 e2
  subst e1 e2 hcs ho
  have := hc j u hj
  rwa [Nat.zero_add] at this
/-- a row of operations as a tree, with a tree behind it -/
def Tr.pre : List (Nat × Bool) → Tr → Tr
  | [], t => t
  | (i, true) :: s, t => .q i (Tr.pre s t)
  | (i, false) :: s, t => .e i (Tr.pre s t)
/-- what both orders must come to -/
def forkQ (P : Program) (ops : Array Oper) (Q : Exit → Act → World → Prop) (R : World → World → Prop) (m : Nat) (s1 s2 : List (Nat × Bool)) : Exit → Act → World → Prop
  | .normal, a, w => wpSch P ops Q R m s1 a w ∧ wpSch P ops Q R m s2 a w
  | .panic c, a, w => Q (.panic c) a w
  | e, a, w => Q e a w
theorem wpTr_pre {ops : Array Oper} {Q2 : Exit → Act → World → Prop} {t : Tr} (h1 : ∀ a w, Q2 .normal a w → wpTr P ops Q R m t a w) (h2 : ∀ e a w, e ≠ .normal → Q2 e a w → Q e a w) :
    ∀ (s : List (Nat × Bool)) (a : Act) (w : World), wpSch P ops Q2 R m s a w → wpTr P ops Q R m (Tr.pre s t) a w
  | [], a, w, h => h1 a w h
  | (i, true) :: s, a, w, h => by
    obtain ⟨oi, v, e1, e2, h⟩ := h
    exact ⟨oi, v, e1, e2, wpTr_pre h1 h2 s _ _ h⟩
  | (i, false) :: s, a, w, h => by
    have h' : wpOp P ops Q2 i (fun a' w' => (i ≠ m → R w w') ∧ wpTr P ops Q R m (Tr.pre s t) a' w') a w := wpOp_mono (fun a' w' h => ⟨h.1, wpTr_pre h1 h2 s _ _ h.2⟩) h
    show wpOp P ops Q i _ a w
    unfold wpOp at h' ⊢
    cases ho : ops[i]? with
    | none => rw [ho] at h'; exact h'
    | some o =>
      rw [ho] at h'
      dsimp only at h' ⊢
      split at h'
      · rename_i hw
        rw [if_pos hw]
        rcases h' with h' | ⟨h3, h4⟩
        · refine .inl ?_
          unfold Oper.wp at *
          generalize (execOp a.eval o).run P w = r at *
          cases r with
          | ok n w' =>
            cases n <;> simp only [Oper.upon] at h' ⊢ <;> first | exact h' | exact h'.mono (fun e w'' he => by cases e <;> first | exact he | exact h2 _ _ _ (by simp) he | (obtain ⟨b, c, d⟩ := he; exact ⟨b, c, h2 _ _ _ (by simp) d⟩))
          | halt x w' => cases x <;> simp only [Oper.upon] at h' ⊢ <;> first | exact h' | exact h2 _ _ _ (by simp) h'
        · obtain ⟨b, c, d⟩ := h4
          exact .inr ⟨h3, b, c, h2 _ _ _ (by simp) d⟩
      · rename_i hw
        rw [if_neg hw]
        exact h'
theorem wp_region_forkX (M : Mem (· < w0.heap.size) w0 l w) (ss : List Nat) {id : Nat} {L : List Oper} (m : Nat) (pre s1 s2 : List (Nat × Bool)) (i j : Nat) (hm : P.follows .mixedOrders = true)
    (hB : regionOk2 L.toArray m (Tr.pre pre (.fork i j (Tr.pre s1 .done) (Tr.pre s2 .done))) = true)
    (hQ : ∀ c a d v w, Q (.panic c) (Act.put a d v) w → Q (.panic c) a w)
    (h : ∀ w', Mem (· < w0.heap.size) w0 l w' → wpSch P L.toArray (forkQ P L.toArray Q (keepX w0.heap.size a ss) m ((i, false) :: s1) ((j, false) :: s2)) (keepX w0.heap.size a ss) m pre a w') : (Code.region id L.toArray true).wp P Q a w := by
  refine wp_region_tr (keepX w0.heap.size a ss) m _ hm hB keepX.refl keepX.trans hQ (wpTr_pre (Q2 := forkQ P L.toArray Q (keepX w0.heap.size a ss) m ((i, false) :: s1) ((j, false) :: s2)) (fun a' w' hf => ?_) (fun e a' w' he hq => ?_) pre a w.drew (h w.drew M.drew))
  · obtain ⟨h1, h2⟩ := hf
    exact wpTr_fork (wpTr_pre (t := .done) (fun _ _ h => h) (fun _ _ _ _ h => h) ((i, false) :: s1) a' w' h1) (wpTr_pre (t := .done) (fun _ _ h => h) (fun _ _ _ _ h => h) ((j, false) :: s2) a' w' h2)
  · cases e <;> first | exact absurd rfl he | exact hq
theorem forkQ_mk {ops : Array Oper} {s1 s2 : List (Nat × Bool)} (h1 : wpSch P ops Q R m s1 a w) (h2 : wpSch P ops Q R m s2 a w) : forkQ P ops Q R m s1 s2 .normal a w := ⟨h1, h2⟩
end
end Go.Proofs.YtjkfoninjpefmaaGreatDoor
