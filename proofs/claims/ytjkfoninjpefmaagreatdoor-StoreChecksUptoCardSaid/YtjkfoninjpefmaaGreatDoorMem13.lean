/- Guarded reads in regions whose order is left open and that call. No program in sight. -/
import Derived.Test.YtjkfoninjpefmaaGreatDoorMem12
namespace Go.Proofs.YtjkfoninjpefmaaGreatDoor
set_option linter.unusedSimpArgs false
set_option linter.unusedVariables false
open Go.RowKit Res
section
variable {P : Program} {S : Nat → Prop} {w0 w : World} {l : List Res} {Q : Exit → Act → World → Prop} {a a0 : Act} {B : Nat}
variable {L : List Oper} {i m : Nat} {sch : List (Nat × Bool)} {ss : List Nat} {dst : Option Tmp} {t ty : TypeId} {x : Operand} {pos : String} {after : Array Edge} {gd : Option (Nat × Bool)}
theorem sch_load1XG (M : Mem S w0 l w) (s : Nat) (ho : L[i]? = some (Oper.mk dst (.load t x) ty pos after gd)) (hw : Region.wanted (Oper.mk dst (.load t x) ty pos after gd) (yielded L.toArray a.tmps) = true) (hs : s ∈ ss) (g j : Nat) (hb : a0.eval (.tmp s) = .pointer (some ⟨g, j, none⟩)) (k : Nat) (hx : a.eval x = .pointer (some ⟨g, k, none⟩)) {u : TypeId} {cs : List Value} {f : Res → List Res}
    (p : Pick l (bx g u cs) f) (hn : OneT P t) (v : Value) (hv : cs[k]? = some v) (h : wpSch P L.toArray Q (keepX B a0 ss) m sch (a.put dst v) w) : wpSch P L.toArray Q (keepX B a0 ss) m ((i, true) :: sch) a w :=
  wpSch_q v ho hw (fun w' hR => ex_load1 t x rfl ⟨g, k, none⟩ hx hn v (hR.1.2 s hs g j hb k v (by rw [(M.box p).cell]; simpa using hv))) h
theorem sch_loadNXG (M : Mem S w0 l w) (s : Nat) (ho : L[i]? = some (Oper.mk dst (.load t x) ty pos after gd)) (hw : Region.wanted (Oper.mk dst (.load t x) ty pos after gd) (yielded L.toArray a.tmps) = true) (hs : s ∈ ss) (g j : Nat) (hb : a0.eval (.tmp s) = .pointer (some ⟨g, j, none⟩)) (hx : a.eval x = .pointer (some ⟨g, 0, none⟩)) {u : TypeId} {cs : List Value} {f : Res → List Res}
    (p : Pick l (bx g u cs) f) (hn : RowT P t cs.length) (h : wpSch P L.toArray Q (keepX B a0 ss) m sch (a.put dst (.agg cs.toArray)) w) : wpSch P L.toArray Q (keepX B a0 ss) m ((i, true) :: sch) a w :=
  wpSch_q (.agg cs.toArray) ho hw (fun w' hR => by
    unfold execOp
    simp only [hx, Instr.loadAt, Instr.sureAddr, Sem.run_bind, Sem.run_pure, Result.andThen_ok, run_loadVar_cells (w := w') hn (g := g) (i := 0) (fun j' u hu => by
      rw [Nat.zero_add]
      exact hR.1.2 s hs g j hb j' u (by rw [(M.box p).cell]; simpa using hu))]) h
theorem sch_cellXG (ho : L[i]? = some (Oper.mk dst (.load t x) ty pos after gd)) (hw : Region.wanted (Oper.mk dst (.load t x) ty pos after gd) (yielded L.toArray a.tmps) = true) (g k : Nat) (hx : a.eval x = .pointer (some ⟨g, k, none⟩)) (v : Value) (hv : w.cell? ⟨g, k, none⟩ = some v) (hg : g < B) (hn : OneT P t)
    (h : wpSch P L.toArray Q (keepX B a0 ss) m sch (a.put dst v) w) : wpSch P L.toArray Q (keepX B a0 ss) m ((i, true) :: sch) a w :=
  wpSch_q v ho hw (fun w' hR => ex_load1 t x rfl ⟨g, k, none⟩ hx hn v ((World.cell?_of_block (w := w) (a := ⟨g, k, none⟩) (hR.2 g hg)).trans hv)) h
/-- a store of one cell of any make (an interface value too) -/
theorem wp_store1V {o : Oper} {K : Act → World → Prop} (M : Mem S w0 l w) (t : TypeId) (x y : Operand) (ho : o.op = .store t x y) (g i : Nat) (hx : a.eval x = .pointer (some ⟨g, i, none⟩)) {u : TypeId} {cs : List Value} {f : Res → List Res}
    (p : Pick l (bx g u cs) f) (hn : OneT P t) (v : Value) (hco : (a.eval y).cells = #[v]) (h1 : v.oneCell' = true) (hi : i < cs.length)
    (h : ∀ w', Fr (· ≠ g) w w' → Mem S w0 (f (bx g u (cs.set i v))) w' → K (a.put o.dst undef) w') : o.wp P a w K Q := by
  have hsz : (sizeOf t).run P w = .ok [v].length w := (hn w).2
  unfold Oper.wp execOp
  simp only [ho, hx, Instr.storeAt, Instr.sureAddr, Sem.run_bind, Sem.run_pure, Result.andThen_ok, run_store_setCells (M.box p) (i := i) (ws := [v]) (by simp; omega) hco hsz (by simp [h1])]
  exact h _ (Fr.set (p := ⟨g, i, none⟩) (Fr.refl w) v (fun _ h => h rfl)) (M.set p i v)
end
end Go.Proofs.YtjkfoninjpefmaaGreatDoor
