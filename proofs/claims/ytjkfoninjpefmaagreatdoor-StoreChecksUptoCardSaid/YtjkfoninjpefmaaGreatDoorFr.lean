/- What stays: a frame by blocks. No program in sight. -/
import Derived.Test.YtjkfoninjpefmaaGreatDoorRegion
namespace Go.Proofs.YtjkfoninjpefmaaGreatDoor
set_option linter.unusedSimpArgs false
set_option linter.unusedVariables false
open Go.RowKit

/-- of the blocks that are there, those that S names stay as they are -/
structure Fr (S : Nat → Prop) (w w' : World) : Prop where
  os : w'.os = w.os
  tape : w'.tape = w.tape
  output : w'.output = w.output
  size : w.heap.size ≤ w'.heap.size
  block : ∀ b, b < w.heap.size → S b → w'.heap[b]? = w.heap[b]?
namespace Fr
variable {S S' : Nat → Prop} {w w' a b c : World}
theorem refl (w : World) : Fr S w w := ⟨rfl, rfl, rfl, Nat.le_refl _, fun _ _ _ => rfl⟩
theorem trans (h : Fr S a b) (k : Fr S b c) : Fr S a c :=
  ⟨k.os.trans h.os, k.tape.trans h.tape, k.output.trans h.output, Nat.le_trans h.size k.size, fun j hj hs => (k.block j (Nat.lt_of_lt_of_le hj h.size) hs).trans (h.block j hj hs)⟩
theorem mono (h : Fr S a b) (hs : ∀ x, x < a.heap.size → S' x → S x) : Fr S' a b := ⟨h.os, h.tape, h.output, h.size, fun j hj hj' => h.block j hj (hs j hj hj')⟩
theorem of_ext (h : Ext w w') : Fr S w w' := ⟨h.os, h.tape, h.output, h.size, fun j hj _ => h.block j hj⟩
theorem ext (h : Fr S w w') (k : ∀ x, x < w.heap.size → S x) : Ext w w' := ⟨h.os, h.tape, h.output, h.size, fun j hj => h.block j hj (k j hj)⟩
theorem of_grown {row : Option Nat} (h : w.grownBy w' row) (hr : ∀ g, row = some g → g < w.heap.size → ¬ S g) : Fr S w w' :=
  ⟨h.os, h.tape, h.output, h.size, fun j hj hs => h.block j hj fun e => hr j e.symm hj hs⟩
theorem al (w : World) (o : Obj) : Fr S w (w.alloc o) := of_ext (Ext.al w o)
theorem alloc (h : Fr S a w) (o : Obj) : Fr S a (w.alloc o) := h.trans (al w o)
theorem drew (h : Fr S a w) : Fr S a w.drew := h.trans (of_ext (Ext.dr w))
theorem drewN (h : Fr S a w) (n : Nat) : Fr S a (w.drewN n) := ⟨h.os, h.tape, h.output, h.size, h.block⟩
theorem set (h : Fr S a w) {p : Addr} (u : Value) (hp : p.block < a.heap.size → ¬ S p.block) : Fr S a (w.setCell p u) :=
  ⟨h.os, h.tape, h.output, by simpa [World.setCell] using h.size, fun k hk hs => (Below.heap_setCell w p u k (fun e => by subst e; exact hp hk hs)).trans (h.block k hk hs)⟩
/-- a step whose own frame names more than ours -/
theorem step (h : Fr S a b) (k : Fr S' b c) (hs : ∀ x, x < a.heap.size → S x → S' x) : Fr S a c :=
  ⟨k.os.trans h.os, k.tape.trans h.tape, k.output.trans h.output, Nat.le_trans h.size k.size, fun j hj hj' => (k.block j (Nat.lt_of_lt_of_le hj h.size) (hs j hj hj')).trans (h.block j hj hj')⟩
theorem ext_step (h : Fr S a b) (k : Ext b c) : Fr S a c := h.trans (of_ext k)
theorem grown_step {row : Option Nat} (h : Fr S a b) (k : b.grownBy c row) (hr : ∀ g, row = some g → g < a.heap.size → ¬ S g) : Fr S a c :=
  ⟨k.os.trans h.os, k.tape.trans h.tape, k.output.trans h.output, Nat.le_trans h.size k.size, fun j hj hs => (k.block j (Nat.lt_of_lt_of_le hj h.size) fun e => hr j e.symm hj hs).trans (h.block j hj hs)⟩
end Fr
/-- all but block g -/
abbrev Chg (g : Nat) (w w' : World) : Prop := Fr (· ≠ g) w w'
theorem Chg.of_ext {g : Nat} {w w' : World} (h : Ext w w') : Chg g w w' := Fr.of_ext h
theorem Chg.refl (g : Nat) (w : World) : Chg g w w := Fr.refl w
theorem Chg.set {g i : Nat} {w w' : World} (h : Chg g w w') (v : Value) : Chg g w (w'.setCell ⟨g, i, none⟩ v) := Fr.set h v (fun _ k => k rfl)
theorem Box.fr {S : Nat → Prop} {w w' : World} {g : Nat} {t : TypeId} {cs : Array Value} (h : Box w g t cs) (hf : Fr S w w') (hs : S g) : Box w' g t cs := h.keep (hf.block g h.lt hs)
theorem Row.fr {S : Nat → Prop} {w w' : World} {lo hi sz n : Nat} {A : Option Addr} {xs : List Value} (h : Row w lo hi sz A n xs) (hf : Fr S w w') (hh : hi ≤ w.heap.size) (hs : ∀ b, lo ≤ b → b < hi → S b) : Row w' lo hi sz A n xs :=
  h.keep fun b h1 h2 => hf.block b (by omega) (hs b h1 h2)
theorem Own.fr {α : Type} {S : Nat → Prop} {w w' : World} {base : Nat} {e : TypeId} {f : α → List Value} {sz : Nat} {A : Option Addr} {c : Nat} {l : List α} (h : Own w base e f sz A c l) (hf : Fr S w w') (hs : ∀ b, base ≤ b → b < w.heap.size → S b) :
    Own w' base e f sz A c l := h.keep fun b h1 h2 => hf.block b h2 (hs b h1 h2)
/-- a return that is met inside blocks: cheap to ask -/
theorem ret_inBlock {id : Nat} {Q : Exit → Act → World → Prop} {a : Act} {w : World} (h : Q .ret a w) : Exit.inBlock id Q .ret a w := h
theorem Box.drew {w : World} {g : Nat} {t : TypeId} {cs : Array Value} (h : Box w g t cs) : Box w.drew g t cs := h
theorem RS.fr {S S' : Nat → Prop} {w w' : World} (h : Fr S' w w') (hs : ∀ b, b < w.heap.size → S b → S' b) : RS S w w' :=
  ⟨h.size, fun b o h1 h2 => World.cell?_of_block (w := w) (a := ⟨b, o, none⟩) (h.block b h2 (hs b h2 h1))⟩

/-- `v = append(v, x)`: one element, laid in a block of its own just before; at a step of a region whose order is open -/
theorem wp_push {P : Program} {o : Oper} {a : Act} {K : Act → World → Prop} {Q : Exit → Act → World → Prop} {w : World} {t e : TypeId} {sz bytes : Nat} (E : ElemOf P t e sz bytes) (s x : Operand)
    (ho : o.op = .call { callee := .builtin .append, args := #[s, x], argTypes := #[t, t] })
    {α : Type} {f : α → List Value} {base : Nat} {A : Option Addr} {c n : Nat} {l : List α} (y : α) (hn : n = l.length) (hown : Own w base e f sz A c l) (hs : a.eval s = .slice A n c)
    (hx : a.eval x = .slice (some ⟨w.heap.size, 0, none⟩) 1 1) {cs : List Value} (hcs : cs = f y) (hl : (f y).length = sz) (h1 : ∀ u ∈ f y, u.oneCell' = true)
    (hsmall : (l.length + 1) * bytes ≤ 140737488355328) (hlen : l.length + 1 ≤ 140737488355328) (hbase : base ≤ w.heap.size)
    (h : ∀ A' c' w', Own w' base e f sz A' c' (l ++ [y]) → (w.alloc (.cells cs.toArray e)).grownBy w' (ownBlk A) → K (a.put o.dst (.slice A' (l.length + 1) c')) w') :
    o.wp P a (w.alloc (.cells cs.toArray e)) K Q := by
  subst hn
  subst hcs
  obtain ⟨i, z, hi, hz, hsz, hby, hzs⟩ := E.info
  refine wp_append_own _ s x t ho base e i z sz bytes E.under hi hz hsz hby hzs E.pos (.slice A l.length c) l.length (l.flatMap f) hs (World.ownsRow.alloc hown _)
    ⟨w.heap.size, 0, none⟩ 1 1 (f y) hx (by rw [hl, Nat.one_mul]) (cells_new w (f y) e) h1 (by unfold maxLen; omega) hsmall (by simp; omega) ?_
  intro v' w' hown' hg _
  obtain ⟨A', c', rfl⟩ := own_form hown'
  refine h A' c' w' ?_ ?_
  · unfold Own
    rw [flatMap_snoc, show (l ++ [y]).length = l.length + 1 by simp]
    exact hown'
  · have : Value.ownBlock (.slice A l.length c) = ownBlk A := by cases A <;> rfl
    rw [← this]; exact hg
end Go.Proofs.YtjkfoninjpefmaaGreatDoor
