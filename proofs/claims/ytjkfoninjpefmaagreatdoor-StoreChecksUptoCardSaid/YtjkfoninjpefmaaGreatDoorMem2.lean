/- Appends to rows of a call's own, and returns, over memory as a list of what lies in it. No program in sight. -/
import Derived.Test.YtjkfoninjpefmaaGreatDoorMem
import Derived.Test.YtjkfoninjpefmaaGreatDoorApp
import Derived.Maps.AppendAt
namespace Go.Proofs.YtjkfoninjpefmaaGreatDoor
set_option linter.unusedSimpArgs false
set_option linter.unusedVariables false
open Go.RowKit Res

section
variable {P : Program} {S : Nat → Prop} {w0 w : World} {l : List Res} {o : Oper} {a : Act} {K : Act → World → Prop} {Q : Exit → Act → World → Prop}

theorem ownBlock_slice (A : Option Addr) (n c : Nat) : Value.ownBlock (.slice A n c) = ownBlk A := by cases A <;> rfl
/-- `v = append(v, x...)`: whatever row x is -/
theorem wp_appends (M : Mem S w0 l w) {t e : TypeId} {sz bytes : Nat} (E : ElemOf P t e sz bytes) (s x : Operand) (ho : o.op = .call { callee := .builtin .append, args := #[s, x], argTypes := #[t, t] })
    {α : Type} {f : α → List Value} {A : Option Addr} {c n : Nat} {xs : List α} {F : Res → List Res} (hs : a.eval s = .slice A n c) (p : Pick l (ow e f sz A c xs) F) (hn : n = xs.length) (ys : List α)
    {B : Option Addr} {m cx lo hi : Nat} (hx : a.eval x = .slice B m cx) (hm : m = ys.length) (hrow : Row w lo hi sz B m (ys.flatMap f)) (hnil : B = none → cx = 0) (hf : ∀ x, (f x).length = sz) (h1 : ∀ x, ∀ u ∈ f x, u.oneCell' = true)
    (hsmall : (xs.length + ys.length) * bytes ≤ 140737488355328) (hlen : xs.length + ys.length ≤ 140737488355328)
    (h : ∀ A' c' w', Mem S w0 (F (ow e f sz A' c' (xs ++ ys))) w' → K (a.put o.dst (.slice A' (xs.length + ys.length) c')) w') : o.wp P a w K Q := by
  subst hn hm
  obtain ⟨i, z, hi, hz, hsz, hby, hzs⟩ := E.info
  have hown := M.own p
  cases B with
  | none =>
    have h0 : ys = [] := by
      cases ys with
      | nil => rfl
      | cons y ys =>
        obtain ⟨b, off, e, _⟩ := hrow.mem (by simp)
        cases e
    subst h0
    rw [hnil rfl] at hx
    have hrun := run_append_owned_none (P := P) (w := w) 0 t o.type e i sz E.under hi (.slice A xs.length c) xs.length (xs.flatMap f) hown
    unfold Oper.wp
    simp [execOp, ho, resolve, invoke, builtin, hs, hx, hrun, Result.andThen]
    refine h A c w ?_
    rw [List.append_nil]
    exact M.put p (Fr.refl w) _ hown (fun _ h => .inl h)
  | some ad =>
    obtain ⟨v', w', hr, h2, h3, h4, h5⟩ := run_append_own_at (P := P) (w := w) (ty := o.type) 0 t e i z sz bytes E.under hi hz hsz hby hzs E.pos (.slice A xs.length c) xs.length (xs.flatMap f) hown ad ys.length cx (ys.flatMap f)
      (length_flatMap' hf ys) (fun j u hj => by
        have hy : 0 < ys.length := by
          cases ys with
          | nil => simp at hj
          | cons y ys => simp
        obtain ⟨b, off, e, _, _, hc⟩ := hrow.mem hy
        injection e with e
        subst e
        rw [add_plain]
        exact hc j u hj) (fun u hu => by obtain ⟨x, _, hx⟩ := List.mem_flatMap.1 hu; exact h1 x u hx) (by unfold maxLen; omega) hsmall (Nat.zero_le _)
    unfold Oper.wp execOp
    simp only [ho, resolve, invoke, builtin, Sem.run_bind, Sem.run_pure, Result.andThen_ok, List.map_toArray, List.map_cons, List.map_nil, hs, hx, hr]
    obtain ⟨A', c', rfl⟩ := own_form h2
    rw [ownBlock_slice] at h3 h5
    rw [ownBlock_slice] at h5
    refine h A' c' w' (M.put p (Fr.of_grown h3 fun g e _ hg => hg e) _ ?_ fun b hb => ?_)
    · show Own w' 0 e f sz A' c' (xs ++ ys)
      unfold Own
      rw [List.flatMap_append, List.length_append]
      exact h2
    · rcases h5 with h5 | h5
      · exact .inl (by show ownBlk A = some b; rw [← h5]; exact hb)
      · refine .inr ?_
        have hb' : ownBlk A' = some b := hb
        rw [h5] at hb'
        injection hb' with hb'
        omega
/-- `v = append(v, x)`: the element lies in a block of its own -/
theorem wp_append1 (M : Mem S w0 l w) {t e : TypeId} {sz bytes : Nat} (E : ElemOf P t e sz bytes) (s x : Operand) (ho : o.op = .call { callee := .builtin .append, args := #[s, x], argTypes := #[t, t] })
    {α : Type} {f : α → List Value} {A : Option Addr} {c n : Nat} {xs : List α} {F F2 : Res → List Res} (hs : a.eval s = .slice A n c) (g : Nat) (hx : a.eval x = .slice (some ⟨g, 0, none⟩) 1 1) (p : Pick l (ow e f sz A c xs) F) (hn : n = xs.length) (y : α)
    {u : TypeId} {cs : List Value} (p2 : Pick l (bx g u cs) F2) (hcs : cs = f y) (hf : ∀ x, (f x).length = sz) (h1 : ∀ x, ∀ u ∈ f x, u.oneCell' = true)
    (hsmall : (xs.length + 1) * bytes ≤ 140737488355328) (hlen : xs.length + 1 ≤ 140737488355328)
    (h : ∀ A' c' w', Mem S w0 (F (ow e f sz A' c' (xs ++ [y]))) w' → K (a.put o.dst (.slice A' (xs.length + 1) c')) w') : o.wp P a w K Q := by
  have hb := M.box p2
  subst hcs
  exact wp_appends M E s x ho hs p hn [y] hx rfl (lo := 0) (hi := w.heap.size) ⟨by simp [hf], fun _ => ⟨g, 0, rfl, Nat.zero_le _, hb.lt, fun j u hj => by rw [Nat.zero_add, hb.cell]; simpa using hj⟩⟩ (by simp) hf h1 hsmall hlen h
end

theorem _root_.Go.Proofs.YtjkfoninjpefmaaGreatDoor.Own.raise {α : Type} {w : World} {base base' : Nat} {e : TypeId} {f : α → List Value} {sz : Nat} {A : Option Addr} {c : Nat} {l : List α} (h : Own w base e f sz A c l) (hb : ∀ g, ownBlk A = some g → base' ≤ g) : Own w base' e f sz A c l := by
  obtain ⟨h1, h2⟩ := h
  refine ⟨h1, ?_⟩
  rcases h2 with h2 | ⟨g, cap, cur, hv, hg, r⟩
  · exact .inl h2
  · refine .inr ⟨g, cap, cur, hv, hb g ?_, r⟩
    injection hv with hv
    rw [hv]; rfl
/-- what a call hands out lies in new blocks -/
theorem Mem.own_new {α : Type} {w w' : World} {l : List Res} {e : TypeId} {f : α → List Value} {sz : Nat} {A : Option Addr} {c : Nat} {xs : List α} {F : Res → List Res} (M : Mem (· < w.heap.size) w l w') (p : Pick l (ow e f sz A c xs) F) : Own w' w.heap.size e f sz A c xs :=
  (M.own p).raise fun g hg => Nat.le_of_not_lt (M.out _ p.mem g hg)
/-! ## returns -/
def Out (P : Program) (tmps : Array Value) (w : World) : ResultVar → Value → Prop
  | .tmp t, v => tmps.getD t undef = v
  | .cell a t, v => ∃ p, tmps.getD a undef = .pointer (some p) ∧ (loadVar t p).run P w = .ok v w
section
variable {P : Program} {S : Nat → Prop} {w0 w : World} {l : List Res} {fn : Func} {R : Ending → World → Prop} {a : Act}
theorem Out.tmp {t : Nat} {v : Value} {tmps : Array Value} (h : tmps.getD t undef = v) : Out P tmps w (.tmp t) v := h
theorem Out.one (M : Mem S w0 l w) {tmps : Array Value} {t : Nat} {ty u : TypeId} {g : Nat} {cs : List Value} {f : Res → List Res} (h : tmps.getD t undef = .pointer (some ⟨g, 0, none⟩)) (p : Pick l (bx g u cs) f) (hn : OneT P ty) {v : Value} (hv : cs[0]? = some v) :
    Out P tmps w (.cell t ty) v := by
  have hc : w.cell? ⟨g, 0, none⟩ = some v := by rw [(M.box p).cell]; simpa using hv
  exact ⟨_, h, run_loadVar_one hn hc⟩
theorem Out.row (M : Mem S w0 l w) {tmps : Array Value} {t : Nat} {ty u : TypeId} {g : Nat} {cs : List Value} {f : Res → List Res} (h : tmps.getD t undef = .pointer (some ⟨g, 0, none⟩)) (p : Pick l (bx g u cs) f) (hn : RowT P ty cs.length) :
    Out P tmps w (.cell t ty) (.agg cs.toArray) := ⟨_, h, run_loadVar_box hn (M.box p)⟩
theorem ret_m1 {r0 : ResultVar} {v0 : Value} (hres : fn.results = #[r0]) (h0 : Out P a.tmps w r0 v0) (hd : a.defers = []) (h : R (.returned v0) w) : bodyPost P fn R .ret a w := by
  refine bodyPost_ret ?_ hd h
  cases r0 <;> simp [Out] at h0 <;> (try obtain ⟨p0, e0, h0⟩ := h0) <;> simp [results, hres, Sem.run_bind, asAddr, *]
theorem ret_m2 {r0 r1 : ResultVar} {v0 v1 : Value} (hres : fn.results = #[r0, r1]) (h0 : Out P a.tmps w r0 v0) (h1 : Out P a.tmps w r1 v1) (hd : a.defers = []) (h : R (.returned (.tuple #[v0, v1])) w) : bodyPost P fn R .ret a w := by
  refine bodyPost_ret ?_ hd h
  cases r0 <;> cases r1 <;> simp [Out] at h0 h1 <;> (try obtain ⟨p0, e0, h0⟩ := h0) <;> (try obtain ⟨p1, e1, h1⟩ := h1) <;> simp [results, hres, Sem.run_bind, asAddr, *]
theorem ret_m3 {r0 r1 r2 : ResultVar} {v0 v1 v2 : Value} (hres : fn.results = #[r0, r1, r2]) (h0 : Out P a.tmps w r0 v0) (h1 : Out P a.tmps w r1 v1) (h2 : Out P a.tmps w r2 v2) (hd : a.defers = []) (h : R (.returned (.tuple #[v0, v1, v2])) w) : bodyPost P fn R .ret a w := by
  refine bodyPost_ret ?_ hd h
  cases r0 <;> cases r1 <;> cases r2 <;> simp [Out] at h0 h1 h2 <;> (try obtain ⟨p0, e0, h0⟩ := h0) <;> (try obtain ⟨p1, e1, h1⟩ := h1) <;> (try obtain ⟨p2, e2, h2⟩ := h2) <;> simp [results, hres, Sem.run_bind, asAddr, *]
end
end Go.Proofs.YtjkfoninjpefmaaGreatDoor
