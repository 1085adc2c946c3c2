/- Reads of what was there ahead of the call. No program in sight. -/
import Derived.Test.YtjkfoninjpefmaaGreatDoorMem4
namespace Go.Proofs.YtjkfoninjpefmaaGreatDoor
set_option linter.unusedSimpArgs false
set_option linter.unusedVariables false
open Go.RowKit Res

section
variable {P : Program} {S : Nat → Prop} {w0 w : World} {l : List Res} {o : Oper} {a : Act} {K : Act → World → Prop} {Q : Exit → Act → World → Prop}
theorem Mem.far (M : Mem (· < w0.heap.size) w0 l w) {p : Addr} {v : Value} (hc : w0.cell? p = some v) : w.cell? p = some v :=
  (World.cell?_of_block (w := w0) (a := p) (M.ext_of.block p.block (block_lt_of_cell hc))).trans hc
theorem wp_load1C (t : TypeId) (x : Operand) (ho : o.op = .load t x) (g i : Nat) (hx : a.eval x = .pointer (some ⟨g, i, none⟩)) (v : Value) (hv : w.cell? ⟨g, i, none⟩ = some v) (hn : OneT P t) (h : K (a.put o.dst v) w) : o.wp P a w K Q := by
  unfold Oper.wp execOp
  simp only [ho, hx, Instr.loadAt, Instr.sureAddr, Sem.run_bind, Sem.run_pure, Result.andThen_ok, run_loadVar_one hn hv]
  exact h
theorem wp_loadNC (t : TypeId) (x : Operand) (ho : o.op = .load t x) (g i : Nat) (hx : a.eval x = .pointer (some ⟨g, i, none⟩)) (cs : List Value) (hc : ∀ j u, cs[j]? = some u → w.cell? ⟨g, i + j, none⟩ = some u) (hn : RowT P t cs.length) (h : K (a.put o.dst (.agg cs.toArray)) w) : o.wp P a w K Q := by
  unfold Oper.wp execOp
  simp only [ho, hx, Instr.loadAt, Instr.sureAddr, Sem.run_bind, Sem.run_pure, Result.andThen_ok, run_loadVar_cells hn hc]
  exact h
variable {ops : Array Oper} {rest : List Oper} {Qs : Act → Prop} {dst : Option Tmp} {t ty : TypeId} {x : Operand} {pos : String} {after : Array Edge}
theorem st_load1C (g i : Nat) (hx : a.eval x = .pointer (some ⟨g, i, none⟩)) (v : Value) (hv : w.cell? ⟨g, i, none⟩ = some v) (hn : OneT P t) (h : wpStill P ops w Qs rest (a.put dst v)) : wpStill P ops w Qs (Oper.mk dst (.load t x) ty pos after none :: rest) a :=
  st_of _ rfl v (ex_load1 t x rfl ⟨g, i, none⟩ hx hn v hv) h
theorem st_loadNC (g i : Nat) (hx : a.eval x = .pointer (some ⟨g, i, none⟩)) (cs : List Value) (hc : ∀ j u, cs[j]? = some u → w.cell? ⟨g, i + j, none⟩ = some u) (hn : RowT P t cs.length) (h : wpStill P ops w Qs rest (a.put dst (.agg cs.toArray))) : wpStill P ops w Qs (Oper.mk dst (.load t x) ty pos after none :: rest) a :=
  st_of _ rfl (.agg cs.toArray) (by
    unfold execOp
    simp only [hx, Instr.loadAt, Instr.sureAddr, Sem.run_bind, Sem.run_pure, Result.andThen_ok, run_loadVar_cells hn hc]) h
end
end Go.Proofs.YtjkfoninjpefmaaGreatDoor
