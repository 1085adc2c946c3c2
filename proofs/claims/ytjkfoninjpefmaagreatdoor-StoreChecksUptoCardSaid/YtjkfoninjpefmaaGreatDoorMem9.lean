/- Guarded operations, moves and picks of a region that is walked in one row: by laws, not by simp. No program in sight. -/
import Derived.Test.YtjkfoninjpefmaaGreatDoorMem8
namespace Go.Proofs.YtjkfoninjpefmaaGreatDoor
set_option linter.unusedSimpArgs false
set_option linter.unusedVariables false
open Go.RowKit Res

/-- operations that yield a value and nothing else -/
def valueOp2 : Op → Bool
  | .move _ | .assign _ | .pick .. | .binOp .. | .unOp .. | .convert .. | .fieldAddr .. | .field .. | .indexAddr .. | .index .. | .extract .. | .slice .. | .load .. => true
  | _ => false
theorem value2_of {s : Sem Value} {P : Program} {w w' : World} {n : Next} (h : ((do pure (.value (← s)) : Sem Next)).run P w = .ok n w') : ∃ v, n = .value v := by
  rw [Sem.run_bind] at h
  cases hs : s.run P w with
  | ok v w1 => rw [hs] at h; simp only [Result.andThen_ok, Sem.run_pure] at h; injection h with h1 h2; exact ⟨v, h1.symm⟩
  | halt x w1 => rw [hs] at h; simp [Result.andThen] at h
theorem pick_of {s : Sem Bool} {f : Bool → Value} {P : Program} {w w' : World} {n : Next} (h : ((do pure (.value (f (← s))) : Sem Next)).run P w = .ok n w') : ∃ v, n = .value v := by
  rw [Sem.run_bind] at h
  cases hs : s.run P w with
  | ok v w1 => rw [hs] at h; simp only [Result.andThen_ok, Sem.run_pure] at h; injection h with h1 h2; exact ⟨_, h1.symm⟩
  | halt x w1 => rw [hs] at h; simp [Result.andThen] at h
theorem valueOp2_ok {o : Oper} (hq : valueOp2 o.op = true) {ρ : Operand → Value} {P : Program} {w w' : World} {n : Next} (h : (execOp ρ o).run P w = .ok n w') : ∃ v, n = .value v := by
  unfold execOp at h
  obtain ⟨dst, op, ty, pos, after, gd⟩ := o
  cases op <;> first
    | (simp [valueOp2] at hq; done)
    | (exact value2_of h)
    | (simp only [Sem.run_pure] at h; injection h with h1 h2; exact ⟨_, h1.symm⟩)
    | (exact pick_of (f := fun b => if b = true then ρ _ else ρ _) h)
/-- one operation, guarded or not, of a region that only reads: walked as a list of one -/
theorem st_one {P : Program} {w : World} {ops : Array Oper} {rest : List Oper} {Qs : Act → Prop} {a : Act} {o : Oper} (hq : valueOp2 o.op = true)
    (h : ∀ Q' : Exit → Act → World → Prop, (∀ a', wpStill P ops w Qs rest a' → Q' .normal a' w) → wpList P ops Q' [o] a w) : wpStill P ops w Qs (o :: rest) a := by
  have h1 := h (fun e a' w' => e = .normal ∧ w' = w ∧ wpStill P ops w Qs rest a') (fun a' h => ⟨rfl, rfl, h⟩)
  unfold wpStill Oper.still
  unfold wpList at h1
  split at h1
  · rename_i hw
    rw [if_pos hw]
    rcases h1 with h1 | ⟨_, h1⟩
    · unfold Oper.wp at h1
      generalize hr : (execOp a.eval o).run P w = r at h1 ⊢
      cases r with
      | ok n w' =>
        obtain ⟨v, rfl⟩ := valueOp2_ok hq hr
        exact ⟨h1.2.1, h1.2.2⟩
      | halt x w' =>
        cases x <;> first | exact h1.elim | (cases h1.1)
    · exact absurd h1 (by unfold LetsOut; simp)
  · rename_i hw
    rw [if_neg hw]
    exact h1.2.2

theorem st_quiet2 {P : Program} {w : World} {ops : Array Oper} {rest : List Oper} {Qs : Act → Prop} {a : Act} {o : Oper} (hq : valueOp2 o.op = true) (hg : o.guard = none)
    (h : ∀ K : Act → World → Prop, (∀ a', wpStill P ops w Qs rest a' → K a' w) → o.wp P a w K (fun _ _ _ => False)) : wpStill P ops w Qs (o :: rest) a := by
  have h1 := h (fun a' w' => w' = w ∧ wpStill P ops w Qs rest a') (fun a' h => ⟨rfl, h⟩)
  unfold wpStill Oper.still
  rw [if_pos (by unfold Region.wanted; rw [hg])]
  unfold Oper.wp at h1
  generalize hr : (execOp a.eval o).run P w = r at h1 ⊢
  cases r with
  | ok n w' =>
    obtain ⟨v, rfl⟩ := valueOp2_ok hq hr
    exact h1
  | halt x w' => cases x <;> exact h1.elim
/-- a guard that says yes, in a region that only reads: `c` is there so that the kit's own look at the slot decides whether this law is meant -/
theorem st_on2 {P : Program} {w : World} {ops : Array Oper} {rest : List Oper} {Qs : Act → Prop} {a : Act} {dst : Option Tmp} {op : Op} {ty : TypeId} {pos : String} {after : Array Edge} {gd : Nat × Bool}
    (hg : Region.wanted (Oper.mk dst op ty pos after (some gd)) (yielded ops a.tmps) = true)
    (_c : ∀ Q' : Exit → Act → World → Prop, (∀ a', Q' .normal a' w) → wpList P ops Q' [Oper.mk none (.move (.const undef)) ty pos after (some gd)] a w)
    (h : wpStill P ops w Qs (Oper.mk dst op ty pos after none :: rest) a) : wpStill P ops w Qs (Oper.mk dst op ty pos after (some gd) :: rest) a := by
  unfold wpStill at h ⊢
  rw [if_pos (by unfold Region.wanted; rfl)] at h
  rw [if_pos hg]
  exact h
/-- sixteen slots are passed at once: a slot far behind is written in few steps -/
theorem set_skip16 {α : Type} (x0 x1 x2 x3 x4 x5 x6 x7 x8 x9 x10 x11 x12 x13 x14 x15 : α) (l : List α) (n : Nat) (v : α) : (x0 :: x1 :: x2 :: x3 :: x4 :: x5 :: x6 :: x7 :: x8 :: x9 :: x10 :: x11 :: x12 :: x13 :: x14 :: x15 :: l).set (n + 16) v = x0 :: x1 :: x2 :: x3 :: x4 :: x5 :: x6 :: x7 :: x8 :: x9 :: x10 :: x11 :: x12 :: x13 :: x14 :: x15 :: l.set n v := rfl
section
variable {P : Program} {w : World} {Q : Exit → Act → World → Prop} {a : Act} {ops : Array Oper} {rest : List Oper} {dst : Option Tmp} {ty : TypeId} {op : Op} {x y z : Operand} {pos : String} {after : Array Edge} {gd : Nat × Bool}
theorem wl_nil (h : Q .normal a w) : wpList P ops Q [] a w := h
theorem wl_g (h : wpList P ops Q (Oper.mk dst op ty pos after (some gd) :: rest) a w) : wpList P ops Q (Oper.mk dst op ty pos after (some gd) :: rest) a w := h
theorem wl_on (hg : Region.wanted (Oper.mk dst op ty pos after (some gd)) (yielded ops a.tmps) = true) (h : wpList P ops Q (Oper.mk dst op ty pos after none :: rest) a w) : wpList P ops Q (Oper.mk dst op ty pos after (some gd) :: rest) a w := by
  unfold wpList at h ⊢
  rw [if_pos (by unfold Region.wanted; rfl)] at h
  rw [if_pos hg]
  exact h
theorem wl_off (hg : Region.wanted (Oper.mk dst op ty pos after (some gd)) (yielded ops a.tmps) = false) (h : wpList P ops Q rest (a.put dst undef) w) : wpList P ops Q (Oper.mk dst op ty pos after (some gd) :: rest) a w := by
  unfold wpList
  rw [if_neg (by rw [hg]; simp)]
  exact h
theorem wl_of (o : Oper) (hg : o.guard = none) (v : Value) (hr : (execOp a.eval o).run P w = .ok (.value v) w) (h : wpList P ops Q rest (a.put o.dst v) w) : wpList P ops Q (o :: rest) a w :=
  wpList_plain hg fun K hK => by
    unfold Oper.wp
    rw [hr]
    exact hK _ _ h
theorem wl_mv (h : wpList P ops Q (Oper.mk dst (.move x) ty pos after none :: rest) a w) : wpList P ops Q (Oper.mk dst (.move x) ty pos after none :: rest) a w := h
theorem eval_tmp {n : Nat} {v : Value} (h : a.tmps.toList[n]? = some v) : a.eval (.tmp n) = v := by
  have h' : a.tmps[n]? = some v := by simpa using h
  simp [Act.eval, h']
/-- the value is found by reading the list: `rfl` writes it out, where `a.eval x = ?v` would keep the whole frame -/
theorem wl_move {n : Nat} (v : Value) (hx : a.tmps.toList[n]? = some v) (h : wpList P ops Q rest (a.put dst v) w) : wpList P ops Q (Oper.mk dst (.move (.tmp n)) ty pos after none :: rest) a w :=
  wl_of _ rfl v (by simp [execOp, eval_tmp hx]) h
theorem wl_pk (h : wpList P ops Q (Oper.mk dst (.pick x y z) ty pos after none :: rest) a w) : wpList P ops Q (Oper.mk dst (.pick x y z) ty pos after none :: rest) a w := h
theorem wl_pick1 {n : Nat} (v : Value) (hx : a.eval x = .bool true) (hy : a.tmps.toList[n]? = some v) (h : wpList P ops Q rest (a.put dst v) w) : wpList P ops Q (Oper.mk dst (.pick x (.tmp n) z) ty pos after none :: rest) a w :=
  wl_of _ rfl v (by simp [execOp, asBool, hx, eval_tmp hy]) h
theorem wl_pick1c {v : Value} (hx : a.eval x = .bool true) (h : wpList P ops Q rest (a.put dst v) w) : wpList P ops Q (Oper.mk dst (.pick x (.const v) z) ty pos after none :: rest) a w :=
  wl_of _ rfl v (by have hy : a.eval (.const v) = v := rfl; simp [execOp, asBool, hx, hy]) h
theorem wl_pick0 {n : Nat} (v : Value) (hx : a.eval x = .bool false) (hz : a.tmps.toList[n]? = some v) (h : wpList P ops Q rest (a.put dst v) w) : wpList P ops Q (Oper.mk dst (.pick x y (.tmp n)) ty pos after none :: rest) a w :=
  wl_of _ rfl v (by simp [execOp, asBool, hx, eval_tmp hz]) h
theorem wl_pick0c {v : Value} (hx : a.eval x = .bool false) (h : wpList P ops Q rest (a.put dst v) w) : wpList P ops Q (Oper.mk dst (.pick x y (.const v)) ty pos after none :: rest) a w :=
  wl_of _ rfl v (by have hy : a.eval (.const v) = v := rfl; simp [execOp, asBool, hx, hy]) h
variable {Qs : Act → Prop}
theorem st_move2 {n : Nat} (v : Value) (hx : a.tmps.toList[n]? = some v) (h : wpStill P ops w Qs rest (a.put dst v)) : wpStill P ops w Qs (Oper.mk dst (.move (.tmp n)) ty pos after none :: rest) a :=
  st_move v (eval_tmp hx) h
theorem st_pick1t {n : Nat} (v : Value) (hx : a.eval x = .bool true) (hy : a.tmps.toList[n]? = some v) (h : wpStill P ops w Qs rest (a.put dst v)) : wpStill P ops w Qs (Oper.mk dst (.pick x (.tmp n) z) ty pos after none :: rest) a :=
  st_pick1 v hx (eval_tmp hy) h
theorem st_pick1c {v : Value} (hx : a.eval x = .bool true) (h : wpStill P ops w Qs rest (a.put dst v)) : wpStill P ops w Qs (Oper.mk dst (.pick x (.const v) z) ty pos after none :: rest) a :=
  st_pick1 v hx rfl h
theorem st_pick0t {n : Nat} (v : Value) (hx : a.eval x = .bool false) (hz : a.tmps.toList[n]? = some v) (h : wpStill P ops w Qs rest (a.put dst v)) : wpStill P ops w Qs (Oper.mk dst (.pick x y (.tmp n)) ty pos after none :: rest) a :=
  st_pick0 v hx (eval_tmp hz) h
theorem st_pick0c {v : Value} (hx : a.eval x = .bool false) (h : wpStill P ops w Qs rest (a.put dst v)) : wpStill P ops w Qs (Oper.mk dst (.pick x y (.const v)) ty pos after none :: rest) a :=
  st_pick0 v hx rfl h
end
end Go.Proofs.YtjkfoninjpefmaaGreatDoor
