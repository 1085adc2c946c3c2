/- Sets of numbers kept as a map of bools: how such a map is asked and written. -/
import Derived.Test.YteplpgknnlehnaaFr
import Derived.Maps.OwnSet
namespace Go.Proofs.Yteplpgknnlehnaa
set_option linter.unusedSimpArgs false
set_option linter.unusedVariables false
open Go.RowKit Go.Maps

theorem plainElem_bool_inv {P : Program} {e : TypeId} (he : P.underlying e = some .bool) {v : Value} {z : DataW Unit × List MemPlace} (h : plainElem P e v = some z) : ∃ x, v = .bool x ∧ z = (.lit (.bool x), []) := by
  unfold plainElem at h
  rw [he] at h
  cases v <;> simp at h
  exact ⟨_, rfl, h.symm⟩

/-- block b is a map of at most n entries that says f of each number -/
def BSet (P : Program) (k e : TypeId) (w : World) (b n : Nat) (f : Nat → Bool) : Prop :=
  ∃ D : DataW Unit, w.ownsMap P k (plainElem P e) b n D ∧ ∀ x : Nat, D.atKey (.int .u64 x) (.lit (.bool false)) = .lit (.bool (f x))

namespace BSet
variable {P : Program} {k e : TypeId} {w w' : World} {b n : Nat} {f : Nat → Bool}
theorem made (w : World) : BSet P k e (w.alloc (.map #[] 0)) w.heap.size 0 (fun _ => false) := ⟨.map [], World.ownsMap_made w P k _, fun _ => rfl⟩
theorem lt (h : BSet P k e w b n f) : b < w.heap.size := by obtain ⟨D, h, _⟩ := h; exact h.lt
theorem keep (h : BSet P k e w b n f) (hk : w'.heap[b]? = w.heap[b]?) : BSet P k e w' b n f := by
  obtain ⟨D, ⟨es, clock, hb, F, hs, hD⟩, hf⟩ := h
  exact ⟨D, ⟨es, clock, hk.trans hb, F, hs, hD⟩, hf⟩
theorem ext (h : BSet P k e w b n f) (hb : Ext w w') : BSet P k e w' b n f := h.keep (hb.block b h.lt)
theorem fr {S : Nat → Prop} (h : BSet P k e w b n f) (hf : Fr S w w') (hs : S b) : BSet P k e w' b n f := h.keep (hf.block b h.lt hs)
theorem alloc (h : BSet P k e w b n f) (o : Obj) : BSet P k e (w.alloc o) b n f := h.keep (Below.heap_alloc w o b h.lt)
theorem far (h : BSet P k e w b n f) {p : Addr} (hp : b ≠ p.block) (u : Value) : BSet P k e (w.setCell p u) b n f := h.keep (Below.heap_setCell w p u b hp)
theorem grown (h : BSet P k e w b n f) {row : Option Nat} (hg : w.grownBy w' row) (hne : some b ≠ row) : BSet P k e w' b n f := h.keep (hg.block b h.lt hne)
theorem mono (h : BSet P k e w b n f) {n' : Nat} (hn : n ≤ n') : BSet P k e w b n' f := by
  obtain ⟨D, h, hf⟩ := h
  exact ⟨D, h.mono hn, hf⟩
theorem congr (h : BSet P k e w b n f) {g : Nat → Bool} (hg : ∀ x, f x = g x) : BSet P k e w b n g := by
  obtain ⟨D, h, hf⟩ := h
  exact ⟨D, h, fun x => by rw [hf, hg]⟩
end BSet
theorem ne_lit {x y : Nat} (h : x ≠ y) : (Lit.int .u64 (x : Int)) ≠ .int .u64 (y : Int) := by
  intro e
  injection e with _ e
  exact h (by omega)
theorem wf_u64 {x : Nat} (h : x < 18446744073709551616) : (Lit.int .u64 (x : Int)).wf = true := by
  simp [Lit.wf, IntKind.min, IntKind.max, IntKind.bits, IntKind.signed]
  omega

/-- `m[k]` -/
theorem wpList_asks {P : Program} {ops : Array Oper} {rest : List Oper} {o : Oper} {a : Act} {Q : Exit → Act → World → Prop} {w : World} {t k e : TypeId}
    (hg : o.guard = none) (m x : Operand) (hop : o.op = Op.lookup t m x false) (ht : P.underlying t = some (.map k e)) (hk : P.underlying k = some (.int .u64)) (he : P.underlying e = some .bool) (hz : (zeroValue e).run P w = .ok (.bool false) w)
    {b n : Nat} {f : Nat → Bool} (hs : BSet P k e w b n f) (hm : a.eval m = .map (some b)) {v : Nat} (hv : v < 18446744073709551616) (hx : a.eval x = .int .u64 v)
    (hK : wpList P ops Q rest (a.put o.dst (.bool (f v))) w) : wpList P ops Q (o :: rest) a w := by
  obtain ⟨D, hown, hf⟩ := hs
  refine wpList_plain hg fun K' hK' => ?_
  obtain ⟨u, ps, hrun, hR⟩ := hown.lookup (int_keyed hk) ht hz (plainElem_bool he false) (keyOf_int_mk hk (wf_u64 hv))
  obtain ⟨c, rfl, hc⟩ := plainElem_bool_inv he hR
  have hc1 := congrArg Prod.fst hc
  dsimp only at hc1
  rw [hf] at hc1
  injection hc1 with hc1
  injection hc1 with hc1
  subst hc1
  unfold Oper.wp
  simp [execOp, hop, hm, hx, hrun, Result.andThen]
  exact hK' _ _ hK
/-- `m[k] = v` -/
theorem wpList_marks {P : Program} {ops : Array Oper} {rest : List Oper} {o : Oper} {a : Act} {Q : Exit → Act → World → Prop} {w : World} {t k e : TypeId}
    (hg : o.guard = none) (m x u : Operand) (hop : o.op = Op.mapUpdate t m x u) (ht : P.underlying t = some (.map k e)) (hk : P.underlying k = some (.int .u64)) (he : P.underlying e = some .bool)
    {b n : Nat} {f : Nat → Bool} (hs : BSet P k e w b n f) (hn : n < 140737488355328) (hm : a.eval m = .map (some b)) {v : Nat} {c : Bool} (hv : v < 18446744073709551616) (hx : a.eval x = .int .u64 v) (hu : a.eval u = .bool c)
    (hK : ∀ w', BSet P k e w' b (n + 1) (fun y => if y = v then c else f y) → w.grownBy w' (some b) → wpList P ops Q rest (a.put o.dst undef) w') : wpList P ops Q (o :: rest) a w := by
  obtain ⟨D, hown, hf⟩ := hs
  refine wpList_mapUpdate_own w hg m x u t hop k e (int_keyed hk) ht (plainElem P e) b n D hm hown (by unfold maxLen; omega) _ _ _ hx hu (keyOf_int_mk hk (wf_u64 hv)) _ [] (plainElem_bool he c) ?_
  intro w' h1 h2
  refine hK w' ⟨_, h1, fun y => ?_⟩ h2
  by_cases hy : y = v
  · subst hy
    rw [atKey_put_same hown.isMap (by simp [WideAt.IsKeyLit])]
    simp
  · rw [atKey_put_other (ne_lit hy), hf]
    simp [hy]
/-- `delete(m, k)` -/
theorem wpList_drops {P : Program} {ops : Array Oper} {rest : List Oper} {o : Oper} {a : Act} {Q : Exit → Act → World → Prop} {w : World} {t k e : TypeId}
    (hg : o.guard = none) (m x : Operand) (hop : o.op = Op.call { callee := Callee.builtin Builtin.delete, args := #[m, x], argTypes := #[t, k] }) (ht : P.underlying t = some (.map k e)) (hk : P.underlying k = some (.int .u64)) (he : P.underlying e = some .bool)
    {b n : Nat} {f : Nat → Bool} (hs : BSet P k e w b n f) (hm : a.eval m = .map (some b)) {v : Nat} (hv : v < 18446744073709551616) (hx : a.eval x = .int .u64 v)
    (hK : ∀ w', BSet P k e w' b n (fun y => if y = v then false else f y) → w.grownBy w' (some b) → wpList P ops Q rest (a.put o.dst (.tuple #[])) w') : wpList P ops Q (o :: rest) a w := by
  obtain ⟨D, hown, hf⟩ := hs
  refine wpList_delete_own w hg m x t k hop e (int_keyed hk) ht (plainElem P e) b n D hm hown _ _ hx (keyOf_int_mk hk (wf_u64 hv)) ?_
  intro w' h1 h2
  refine hK w' ⟨_, h1, fun y => ?_⟩ h2.grown
  by_cases hy : y = v
  · subst hy
    rw [atKey_del_same]
    simp
  · rw [atKey_del_other (ne_lit hy), hf]
    simp [hy]
/-- `clear(m)` -/
theorem wpList_clears {P : Program} {ops : Array Oper} {rest : List Oper} {o : Oper} {a : Act} {Q : Exit → Act → World → Prop} {w : World} {t k e : TypeId}
    (hg : o.guard = none) (m : Operand) (hop : o.op = Op.call { callee := Callee.builtin Builtin.clear, args := #[m], argTypes := #[t] }) (ht : P.underlying t = some (.map k e))
    {b n : Nat} {f : Nat → Bool} (hs : BSet P k e w b n f) (hm : a.eval m = .map (some b))
    (hK : ∀ w', w.grownBy w' (some b) → wpList P ops Q rest (a.put o.dst (.tuple #[])) w') : wpList P ops Q (o :: rest) a w := by
  obtain ⟨D, ⟨es, clock, hb, _⟩, _⟩ := hs
  refine wpList_plain hg fun K' hK' => ?_
  unfold Oper.wp
  simp [execOp, hop, resolve, invoke, builtin, hm, Builtin.clear_, run_underlying ht, MapKept.run_getObj_map hb, MapKept.run_setObj_map _ hb, Result.andThen]
  exact hK' _ _ (hK _ ⟨rfl, rfl, rfl, by simp, fun i _ hi => (Go.MapKept.heap_set hb).2 i (fun e => hi (by rw [e]))⟩)
end Go.Proofs.Yteplpgknnlehnaa
