/- Regions whose order is left open, over memory as a list of what lies in it: first what only reads, in any order, then the rest in one row. No program in sight. -/
import Derived.Test.YtjkfoninjpefmaaGreatDoorMem3
import Derived.StillTailTactics
namespace Go.Proofs.YtjkfoninjpefmaaGreatDoor
set_option linter.unusedSimpArgs false
set_option linter.unusedVariables false
open Go.RowKit Res

/-- as fastK, in a region that only reads -/
theorem fastS (P' : Program) {P : Program} {w : World} {ops : Array Oper} {rest : List Oper} {Qs : Act → Prop} {a : Act} {d : Tmp} {dst : Option Tmp} {v : Value} (hd : dst = some d)
    (h : (Oper.mk (some d) (.move (.const v)) 0 "" #[] none).wp P' a w (fun a' _ => wpStill P ops w Qs rest a') (fun _ _ _ => True)) : wpStill P ops w Qs rest (a.put dst v) := by subst hd; exact h
theorem fastSN {P : Program} {w : World} {ops : Array Oper} {rest : List Oper} {Qs : Act → Prop} {a : Act} {dst : Option Tmp} {v : Value} (hd : dst = none) (h : wpStill P ops w Qs rest a) : wpStill P ops w Qs rest (a.put dst v) := by subst hd; exact h

/-- operations that yield a value and nothing else -/
def valueOp : Op → Bool
  | .move _ | .assign _ | .binOp .. | .unOp .. | .convert .. | .fieldAddr .. | .field .. | .indexAddr .. | .index .. | .extract .. | .slice .. | .load .. => true
  | _ => false
theorem value_of {s : Sem Value} {P : Program} {w w' : World} {n : Next} (h : ((do pure (.value (← s)) : Sem Next)).run P w = .ok n w') : ∃ v, n = .value v := by
  rw [Sem.run_bind] at h
  cases hs : s.run P w with
  | ok v w1 => rw [hs] at h; simp only [Result.andThen_ok, Sem.run_pure] at h; injection h with h1 h2; exact ⟨v, h1.symm⟩
  | halt x w1 => rw [hs] at h; simp [Result.andThen] at h
theorem valueOp_ok {o : Oper} (hq : valueOp o.op = true) {ρ : Operand → Value} {P : Program} {w w' : World} {n : Next} (h : (execOp ρ o).run P w = .ok n w') : ∃ v, n = .value v := by
  unfold execOp at h
  obtain ⟨dst, op, ty, pos, after, gd⟩ := o
  cases op <;> first
    | (simp [valueOp] at hq; done)
    | (exact value_of h)
    | (simp only [Sem.run_pure] at h; injection h with h1 h2; exact ⟨_, h1.symm⟩)
/-- an operation that only yields a value, in a region that only reads: walked as any other operation -/
theorem st_quiet {P : Program} {w : World} {ops : Array Oper} {rest : List Oper} {Qs : Act → Prop} {a : Act} {o : Oper} (hq : valueOp o.op = true) (hg : o.guard = none)
    (h : ∀ K : Act → World → Prop, (∀ a', wpStill P ops w Qs rest a' → K a' w) → o.wp P a w K (fun _ _ _ => False)) : wpStill P ops w Qs (o :: rest) a := by
  have h1 := h (fun a' w' => w' = w ∧ wpStill P ops w Qs rest a') (fun a' h => ⟨rfl, h⟩)
  unfold wpStill Oper.still
  rw [if_pos (by unfold Region.wanted; rw [hg])]
  unfold Oper.wp at h1
  generalize hr : (execOp a.eval o).run P w = r at h1 ⊢
  cases r with
  | ok n w' =>
    obtain ⟨v, rfl⟩ := valueOp_ok hq hr
    exact h1
  | halt x w' => cases x <;> exact h1.elim

section
variable {P : Program} {S : Nat → Prop} {w0 w : World} {l : List Res} {Q : Exit → Act → World → Prop} {a : Act}
theorem wp_region_mem (M : Mem S w0 l w) {id : Nat} {L : List Oper} (n : Nat) (hm : P.follows .mixedOrders = true) (hB : Region.lexTailB .any L.toArray n = true)
    (h : ∀ w', Mem S w0 l w' → wpStill P L.toArray w' (fun a' => wpList P L.toArray Q (L.drop n) a' w') (L.take n) a) : (Code.region id L.toArray true).wp P Q a w :=
  wp_region_still_tail n hm hB (h w.drew M.drew)
theorem wp_region_mem0 (M : Mem S w0 l w) {id : Nat} {L : List Oper} (hm : P.follows .mixedOrders = true) (hB : Region.lexB .any L.toArray = true)
    (h : ∀ w', Mem S w0 l w' → wpStill P L.toArray w' (fun a' => Q .normal a' w') L a) : (Code.region id L.toArray true).wp P Q a w :=
  wp_region_still_lit hm hB (h w.drew M.drew)
/-- at a region, by its number -/
theorem on_region (id : Nat) {ops : Array Oper} (h : (Code.region id ops true).wp P Q a w) : (Code.region id ops true).wp P Q a w := h
variable {ops : Array Oper} {rest : List Oper} {Qs : Act → Prop} {dst : Option Tmp} {t ty : TypeId} {x : Operand} {pos : String} {after : Array Edge}
theorem st_of (o : Oper) (hg : o.guard = none) (v : Value) (hr : (execOp a.eval o).run P w = .ok (.value v) w) (h : wpStill P ops w Qs rest (a.put o.dst v)) : wpStill P ops w Qs (o :: rest) a := by
  unfold wpStill Oper.still
  rw [if_pos (by unfold Region.wanted; rw [hg]), hr, Oper.stillUpon_value]
  exact h
theorem st_load (h : wpStill P ops w Qs (Oper.mk dst (.load t x) ty pos after none :: rest) a) : wpStill P ops w Qs (Oper.mk dst (.load t x) ty pos after none :: rest) a := h
theorem st_load1 (M : Mem S w0 l w) (g i : Nat) (hx : a.eval x = .pointer (some ⟨g, i, none⟩)) {u : TypeId} {cs : List Value} {f : Res → List Res}
    (p : Pick l (bx g u cs) f) (hn : OneT P t) (v : Value) (hv : cs[i]? = some v) (h : wpStill P ops w Qs rest (a.put dst v)) : wpStill P ops w Qs (Oper.mk dst (.load t x) ty pos after none :: rest) a :=
  st_of _ rfl v (ex_load1 t x rfl ⟨g, i, none⟩ hx hn v (by rw [(M.box p).cell]; simpa using hv)) h
theorem st_loadN (M : Mem S w0 l w) (g : Nat) (hx : a.eval x = .pointer (some ⟨g, 0, none⟩)) {u : TypeId} {cs : List Value} {f : Res → List Res}
    (p : Pick l (bx g u cs) f) (hn : RowT P t cs.length) (h : wpStill P ops w Qs rest (a.put dst (.agg cs.toArray))) : wpStill P ops w Qs (Oper.mk dst (.load t x) ty pos after none :: rest) a :=
  st_of _ rfl (.agg cs.toArray) (by
    unfold execOp
    simp only [hx, Instr.loadAt, Instr.sureAddr, Sem.run_bind, Sem.run_pure, Result.andThen_ok, run_loadVar_box hn (M.box p)]) h
end
end Go.Proofs.YtjkfoninjpefmaaGreatDoor
