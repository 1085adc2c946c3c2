/- What stays when a loop over a function turns its own records; append inside a fence. No program in sight. -/
import Derived.Test.YteplpgknnlehnaaFr
import Derived.Test.YteplpgknnlehnaaBase2
import Derived.RangeFuncNested
import Derived.RangeFuncBound
import Derived.RangeFuncCalls
import Derived.RangeFuncLeaves
import Derived.RangeFuncBox
import Derived.Shelf.Abstract
import Derived.Shelf.RegionOpen
import Derived.OwnWalkIn
import Derived.TacticsInMore
import Derived.LoopNIn
import Derived.LoopIn
import Derived.Maps.OwnIn
namespace Go.Proofs.Yteplpgknnlehnaa
set_option linter.unusedSimpArgs false
set_option linter.unusedVariables false
open Go.RowKit Go.Shelf

section
variable {w w' : World} {row : Option Nat}
theorem Box.turn {g : Nat} {t : TypeId} {cs : Array Value} (h : Box w g t cs) (hg : w.grownBy w' row) (hr : ∀ r, row = some r → ∃ o : Obj, w.heap[r]? = some o ∧ o.isCells = false) : Box w' g t cs := h.keep (grownBy_keeps_cells hg hr h rfl)
theorem Row.turn {lo hi sz n : Nat} {A : Option Addr} {xs : List Value} (h : Row w lo hi sz A n xs) (hg : w.grownBy w' row) (hr : ∀ r, row = some r → ∃ o : Obj, w.heap[r]? = some o ∧ o.isCells = false) : Row w' lo hi sz A n xs :=
  ⟨h.len, fun hn => by
    obtain ⟨b, off, e, h1, h2, hc⟩ := h.mem hn
    exact ⟨b, off, e, h1, h2, fun j u hu => cell_kept (hc j u hu) hg hr⟩⟩
theorem Own.turn {α : Type} {base : Nat} {e : TypeId} {f : α → List Value} {sz : Nat} {A : Option Addr} {c : Nat} {l : List α} (h : Own w base e f sz A c l) (hg : w.grownBy w' row) (hr : ∀ r, row = some r → ∃ o : Obj, w.heap[r]? = some o ∧ o.isCells = false) : Own w' base e f sz A c l := by
  refine h.grown hg fun g e1 e2 => ?_
  obtain ⟨o, ho, hc⟩ := hr g e1
  rcases h.2 with ⟨h0, _⟩ | ⟨g', cap, cur, hv, _, hh, _⟩
  · injection h0 with h0
    subst h0
    cases e2
  · injection hv with hv
    subst hv
    have : g' = g := by simpa [ownBlk] using e2
    subst this
    rw [hh] at ho
    cases ho
    cases hc
end

theorem wpIn_scope_wide {n : Nat} {P : Program} {c : Code} {Q : Exit → Act → World → Prop} {a : Act} {w : World} (h : c.wpIn Fence.wide n P (Exit.noGoto Q) a w) : (Code.scope c).wpIn Fence.wide n P Q a w := wpIn_wide.2 (wp_scope_straight (wpIn_wide.1 h))
theorem KeepsFrom.ext {B : Nat} {w w' : World} (h : Ext w w') : KeepsFrom B w w' := ⟨h.size, fun k o _ hk _ => (h.block k (Array.getElem?_eq_some_iff.1 hk).1).trans hk⟩

theorem Own.blk_cells {α : Type} {w : World} {base : Nat} {e : TypeId} {f : α → List Value} {sz : Nat} {A : Option Addr} {c : Nat} {l : List α} (h : Own w base e f sz A c l) (g : Nat) (o : Obj) (hg : ownBlk A = some g) (ho : w.heap[g]? = some o) : o.isCells = true := by
  rcases h.2 with ⟨h0, _⟩ | ⟨g', cap, cur, hv, _, hh, _⟩
  · injection h0 with h0
    subst h0
    cases hg
  · injection hv with hv
    subst hv
    have : g' = g := by simpa [ownBlk] using hg
    subst this
    rw [hh] at ho
    cases ho
    rfl
/-- `v = append(v, x)`, inside a fence -/
theorem wpListIn_push_at {F : Fence} {nF : Nat} {P : Program} {ops : Array Oper} {rest : List Oper} {o : Oper} {a : Act} {Q : Exit → Act → World → Prop} {w : World} {t e : TypeId} {sz bytes : Nat} (E : ElemOf P t e sz bytes) (hgd : o.guard = none) (s x : Operand)
    (ho : o.op = .call { callee := .builtin .append, args := #[s, x], argTypes := #[t, t] })
    {α : Type} {f : α → List Value} {base : Nat} {A : Option Addr} {c n : Nat} {l : List α} (y : α) (hn : n = l.length) (hown : Own w base e f sz A c l) (hs : a.eval s = .slice A n c)
    (hx : a.eval x = .slice (some ⟨w.heap.size, 0, none⟩) 1 1) {cs : List Value} (hcs : cs = f y) (hl : (f y).length = sz) (h1 : ∀ u ∈ f y, u.oneCell' = true)
    (hsmall : (l.length + 1) * bytes ≤ 140737488355328) (hlen : l.length + 1 ≤ 140737488355328) (hbase : base ≤ w.heap.size)
    (h : ∀ A' c' w', Own w' base e f sz A' c' (l ++ [y]) → (w.alloc (.cells cs.toArray e)).grownBy w' (ownBlk A) → (∀ g, ownBlk A' = some g → ownBlk A = some g ∨ w.heap.size ≤ g) → wpListIn F nF P ops Q rest (a.put o.dst (.slice A' (l.length + 1) c')) w') :
    wpListIn F nF P ops Q (o :: rest) a (w.alloc (.cells cs.toArray e)) := by
  subst hn
  subst hcs
  obtain ⟨i, z, hi, hz, hsz, hby, hzs⟩ := E.info
  refine wpListIn_append_own_at _ hgd s x t ho base e i z sz bytes E.under hi hz hsz hby hzs E.pos (.slice A l.length c) l.length (l.flatMap f) hs (World.ownsRow.alloc hown _)
    ⟨w.heap.size, 0, none⟩ 1 1 (f y) hx (by rw [hl, Nat.one_mul]) (cells_new w (f y) e) h1 (by unfold maxLen; omega) hsmall (by simp; omega) ?_
  intro v' w' hown' hg _ hat
  obtain ⟨A', c', rfl⟩ := own_form hown'
  have hb : ∀ A : Option Addr, ∀ n c, Value.ownBlock (.slice A n c) = ownBlk A := fun A n c => by cases A <;> rfl
  refine h A' c' w' ?_ ?_ ?_
  · unfold Own
    rw [flatMap_snoc, show (l ++ [y]).length = l.length + 1 by simp]
    exact hown'
  · rw [← hb A l.length c]; exact hg
  · intro g e
    rw [hb, hb] at hat
    rcases hat with h1 | h1
    · exact .inl (by rw [← h1]; exact e)
    · rw [h1] at e
      cases e
      exact .inr (by simp)

end Go.Proofs.Yteplpgknnlehnaa
