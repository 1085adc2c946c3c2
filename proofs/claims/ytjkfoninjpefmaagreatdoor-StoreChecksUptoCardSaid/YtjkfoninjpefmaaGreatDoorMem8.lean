/- Regions whose order is left open, with calls and stores, where what was there ahead of the call is read as well. No program in sight. -/
import Derived.Test.YtjkfoninjpefmaaGreatDoorMem7
namespace Go.Proofs.YtjkfoninjpefmaaGreatDoor
set_option linter.unusedSimpArgs false
set_option linter.unusedVariables false
open Go.RowKit Res

/-- as keepR, and the blocks below B stay -/
def keepX (B : Nat) (a : Act) (ss : List Nat) (w w' : World) : Prop := keepR a ss w w' ∧ ∀ b, b < B → w'.heap[b]? = w.heap[b]?
namespace keepX
variable {B : Nat} {a : Act} {ss : List Nat} {w0 w w' : World} {S : Nat → Prop} {l : List Res}
theorem refl (w : World) : keepX B a ss w w := ⟨keepR.refl w, fun _ _ => rfl⟩
theorem trans (x y z : World) (h : keepX B a ss x y) (k : keepX B a ss y z) : keepX B a ss x z := ⟨keepR.trans x y z h.1 k.1, fun b hb => (k.2 b hb).trans (h.2 b hb)⟩
theorem ext (M : Mem S w0 l w) (h : Ext w w') : keepX w0.heap.size a ss w w' := ⟨keepR.ext h, fun b hb => h.block b (Nat.lt_of_lt_of_le hb M.fr.size)⟩
theorem fr {g : Nat} {u : TypeId} {cs : List Value} {f : Res → List Res} (M : Mem (· < w0.heap.size) w0 l w) (p : Pick l (bx g u cs) f) (h : Fr (· ≠ g) w w') (ho : OffB a ss g) : keepX w0.heap.size a ss w w' :=
  ⟨keepR.fr h ho, fun b hb => h.block b (Nat.lt_of_lt_of_le hb M.fr.size) (fun e => M.out _ p.mem g rfl (e ▸ hb))⟩
end keepX
section
variable {P : Program} {S : Nat → Prop} {w0 w : World} {l : List Res} {Q : Exit → Act → World → Prop} {a a0 : Act} {o : Oper} {B : Nat}
theorem wp_region_keepX (M : Mem (· < w0.heap.size) w0 l w) (ss : List Nat) {id : Nat} {L : List Oper} (m : Nat) (sch : List (Nat × Bool)) (hm : P.follows .mixedOrders = true) (hB : regionOk L.toArray m sch = true)
    (hQ : ∀ c a d v w, Q (.panic c) (Act.put a d v) w → Q (.panic c) a w) (h : ∀ w', Mem (· < w0.heap.size) w0 l w' → wpSch P L.toArray Q (keepX w0.heap.size a ss) m sch a w') : (Code.region id L.toArray true).wp P Q a w :=
  wp_region_sch (keepX w0.heap.size a ss) m sch hm hB keepX.refl keepX.trans hQ (h w.drew M.drew)
variable {L : List Oper} {i m : Nat} {sch : List (Nat × Bool)} {ss : List Nat} {dst : Option Tmp} {t ty : TypeId} {x : Operand} {pos : String} {after : Array Edge}
theorem sch_load1X (M : Mem S w0 l w) (s : Nat) (ho : L[i]? = some (Oper.mk dst (.load t x) ty pos after none)) (hs : s ∈ ss) (g j : Nat) (hb : a0.eval (.tmp s) = .pointer (some ⟨g, j, none⟩)) (k : Nat) (hx : a.eval x = .pointer (some ⟨g, k, none⟩)) {u : TypeId} {cs : List Value} {f : Res → List Res}
    (p : Pick l (bx g u cs) f) (hn : OneT P t) (v : Value) (hv : cs[k]? = some v) (h : wpSch P L.toArray Q (keepX B a0 ss) m sch (a.put dst v) w) : wpSch P L.toArray Q (keepX B a0 ss) m ((i, true) :: sch) a w :=
  wpSch_q v ho rfl (fun w' hR => ex_load1 t x rfl ⟨g, k, none⟩ hx hn v (hR.1.2 s hs g j hb k v (by rw [(M.box p).cell]; simpa using hv))) h
theorem sch_loadNX (M : Mem S w0 l w) (s : Nat) (ho : L[i]? = some (Oper.mk dst (.load t x) ty pos after none)) (hs : s ∈ ss) (g j : Nat) (hb : a0.eval (.tmp s) = .pointer (some ⟨g, j, none⟩)) (hx : a.eval x = .pointer (some ⟨g, 0, none⟩)) {u : TypeId} {cs : List Value} {f : Res → List Res}
    (p : Pick l (bx g u cs) f) (hn : RowT P t cs.length) (h : wpSch P L.toArray Q (keepX B a0 ss) m sch (a.put dst (.agg cs.toArray)) w) : wpSch P L.toArray Q (keepX B a0 ss) m ((i, true) :: sch) a w :=
  wpSch_q (.agg cs.toArray) ho rfl (fun w' hR => by
    unfold execOp
    simp only [hx, Instr.loadAt, Instr.sureAddr, Sem.run_bind, Sem.run_pure, Result.andThen_ok, run_loadVar_cells (w := w') hn (g := g) (i := 0) (fun j' u hu => by
      rw [Nat.zero_add]
      exact hR.1.2 s hs g j hb j' u (by rw [(M.box p).cell]; simpa using hu))]) h
theorem sch_cellX (ho : L[i]? = some (Oper.mk dst (.load t x) ty pos after none)) (g k : Nat) (hx : a.eval x = .pointer (some ⟨g, k, none⟩)) (v : Value) (hv : w.cell? ⟨g, k, none⟩ = some v) (hg : g < B) (hn : OneT P t)
    (h : wpSch P L.toArray Q (keepX B a0 ss) m sch (a.put dst v) w) : wpSch P L.toArray Q (keepX B a0 ss) m ((i, true) :: sch) a w :=
  wpSch_q v ho rfl (fun w' hR => ex_load1 t x rfl ⟨g, k, none⟩ hx hn v ((World.cell?_of_block (w := w) (a := ⟨g, k, none⟩) (hR.2 g hg)).trans hv)) h
variable {ops : Array Oper} {rest : List Oper} {Qs : Act → Prop} {op : Op} {gd : Nat × Bool}
theorem st_gload (h : wpStill P ops w Qs (Oper.mk dst (.load t x) ty pos after (some gd) :: rest) a) : wpStill P ops w Qs (Oper.mk dst (.load t x) ty pos after (some gd) :: rest) a := h
theorem st_on (hg : Region.wanted (Oper.mk dst op ty pos after (some gd)) (yielded ops a.tmps) = true) (h : wpStill P ops w Qs (Oper.mk dst op ty pos after none :: rest) a) : wpStill P ops w Qs (Oper.mk dst op ty pos after (some gd) :: rest) a := by
  unfold wpStill at h ⊢
  rw [if_pos (by unfold Region.wanted; rfl)] at h
  rw [if_pos hg]
  exact h
theorem st_g (h : wpStill P ops w Qs (Oper.mk dst op ty pos after (some gd) :: rest) a) : wpStill P ops w Qs (Oper.mk dst op ty pos after (some gd) :: rest) a := h
theorem st_off (hg : Region.wanted (Oper.mk dst op ty pos after (some gd)) (yielded ops a.tmps) = false) (h : wpStill P ops w Qs rest (a.put dst undef)) : wpStill P ops w Qs (Oper.mk dst op ty pos after (some gd) :: rest) a := by
  unfold wpStill
  rw [if_neg (by rw [hg]; simp)]
  exact h
theorem st_mv (h : wpStill P ops w Qs (Oper.mk dst (.move x) ty pos after none :: rest) a) : wpStill P ops w Qs (Oper.mk dst (.move x) ty pos after none :: rest) a := h
theorem st_move (v : Value) (hx : a.eval x = v) (h : wpStill P ops w Qs rest (a.put dst v)) : wpStill P ops w Qs (Oper.mk dst (.move x) ty pos after none :: rest) a :=
  st_of _ rfl v (by simp [execOp, hx]) h
theorem st_pk {y z : Operand} (h : wpStill P ops w Qs (Oper.mk dst (.pick x y z) ty pos after none :: rest) a) : wpStill P ops w Qs (Oper.mk dst (.pick x y z) ty pos after none :: rest) a := h
theorem st_pick1 {y z : Operand} (v : Value) (hx : a.eval x = .bool true) (hy : a.eval y = v) (h : wpStill P ops w Qs rest (a.put dst v)) : wpStill P ops w Qs (Oper.mk dst (.pick x y z) ty pos after none :: rest) a :=
  st_of _ rfl v (by simp [execOp, asBool, hx, hy]) h
theorem st_pick0 {y z : Operand} (v : Value) (hx : a.eval x = .bool false) (hz : a.eval z = v) (h : wpStill P ops w Qs rest (a.put dst v)) : wpStill P ops w Qs (Oper.mk dst (.pick x y z) ty pos after none :: rest) a :=
  st_of _ rfl v (by simp [execOp, asBool, hx, hz]) h
end
end Go.Proofs.YtjkfoninjpefmaaGreatDoor
