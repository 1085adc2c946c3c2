/- A region whose order is left open, walked as a tree: wherever two that do something may come up at once, both orders. No program in sight. -/
import Derived.Test.YtjkfoninjpefmaaGreatDoorMem10
import Derived.Test.YtjkfoninjpefmaaGreatDoorMem11
namespace Go.Proofs.YtjkfoninjpefmaaGreatDoor
set_option linter.unusedSimpArgs false
set_option linter.unusedVariables false
open Go.RowKit Res

section
variable {P : Program} {S : Nat → Prop} {w0 w : World} {l : List Res} {Q : Exit → Act → World → Prop} {a : Act} {ops : Array Oper} {R : World → World → Prop} {m : Nat}
/-- what the rest of a tree must come to -/
def treeQ (P : Program) (ops : Array Oper) (Q : Exit → Act → World → Prop) (R : World → World → Prop) (m : Nat) (t : Tr) : Exit → Act → World → Prop
  | .normal, a, w => wpTr P ops Q R m t a w
  | .panic c, a, w => Q (.panic c) a w
  | e, a, w => Q e a w
theorem treeQ_pre {t : Tr} (s : List (Nat × Bool)) (a : Act) (w : World) (h : wpSch P ops (treeQ P ops Q R m t) R m s a w) : wpTr P ops Q R m (Tr.pre s t) a w :=
  wpTr_pre (fun _ _ h => h) (fun e _ _ he h => by cases e <;> first | exact absurd rfl he | exact h) s a w h
theorem treeQ_done (h : Q .normal a w) : treeQ P ops Q R m .done .normal a w := h
theorem treeQ_fork {L : List Oper} {i j : Nat} {s1 s2 : List (Nat × Bool)} {t1 t2 : Tr} (h1 : wpSch P L.toArray (treeQ P L.toArray Q R m t1) R m ((i, false) :: s1) a w) (h2 : wpSch P L.toArray (treeQ P L.toArray Q R m t2) R m ((j, false) :: s2) a w) :
    treeQ P L.toArray Q R m (.fork i j (Tr.pre s1 t1) (Tr.pre s2 t2)) .normal a w := wpTr_fork (treeQ_pre ((i, false) :: s1) a w h1) (treeQ_pre ((j, false) :: s2) a w h2)
theorem wp_region_treeR (M : Mem S w0 l w) (ss : List Nat) {id : Nat} {L : List Oper} (m : Nat) (pre : List (Nat × Bool)) (t : Tr) (hm : P.follows .mixedOrders = true)
    (hB : regionOk2 L.toArray m (Tr.pre pre t) = true)
    (hQ : ∀ c a d v w, Q (.panic c) (Act.put a d v) w → Q (.panic c) a w)
    (h : ∀ w', Mem S w0 l w' → wpSch P L.toArray (treeQ P L.toArray Q (keepR a ss) m t) (keepR a ss) m pre a w') : (Code.region id L.toArray true).wp P Q a w :=
  wp_region_tr (keepR a ss) m _ hm hB keepR.refl keepR.trans hQ (treeQ_pre pre a w.drew (h w.drew M.drew))
end
section
variable {P : Program} {w0 w : World} {l : List Res} {Q : Exit → Act → World → Prop} {a : Act}
theorem wp_region_treeX (M : Mem (· < w0.heap.size) w0 l w) (ss : List Nat) {id : Nat} {L : List Oper} (m : Nat) (pre : List (Nat × Bool)) (t : Tr) (hm : P.follows .mixedOrders = true)
    (hB : regionOk2 L.toArray m (Tr.pre pre t) = true)
    (hQ : ∀ c a d v w, Q (.panic c) (Act.put a d v) w → Q (.panic c) a w)
    (h : ∀ w', Mem (· < w0.heap.size) w0 l w' → wpSch P L.toArray (treeQ P L.toArray Q (keepX w0.heap.size a ss) m t) (keepX w0.heap.size a ss) m pre a w') : (Code.region id L.toArray true).wp P Q a w :=
  wp_region_tr (keepX w0.heap.size a ss) m _ hm hB keepX.refl keepX.trans hQ (treeQ_pre pre a w.drew (h w.drew M.drew))
end
/-- none of the slots' blocks is the row's -/
def OffO (a : Act) (ss : List Nat) (A : Option Addr) : Prop := ∀ s ∈ ss, ∀ g' i, a.eval (.tmp s) = .pointer (some ⟨g', i, none⟩) → ¬ ownBlk A = some g'
theorem OffO.nil {a : Act} {A : Option Addr} : OffO a [] A := fun _ h => by cases h
theorem OffO.cons {a : Act} {s : Nat} {ss : List Nat} {A : Option Addr} {g' i : Nat} (hb : a.eval (.tmp s) = .pointer (some ⟨g', i, none⟩)) (hne : ¬ ownBlk A = some g') (h : OffO a ss A) : OffO a (s :: ss) A := fun t ht k j hk => by
  rcases List.mem_cons.1 ht with rfl | ht
  · rw [hb] at hk
    injection hk with hk
    injection hk with hk
    injection hk with hk
    subst hk
    exact hne
  · exact h t ht k j hk
theorem keepR.frO {a : Act} {ss : List Nat} {A : Option Addr} {w w' : World} (h : Fr (fun b => ¬ ownBlk A = some b) w w') (ho : OffO a ss A) : keepR a ss w w' :=
  ⟨h.size, fun s hs g' i hb o v hv => (World.cell?_of_block (w := w) (a := ⟨g', o, none⟩) (h.block g' (block_lt_of_cell hv) (ho s hs g' i hb))).trans hv⟩
theorem Mem.ne_ow {S : Nat → Prop} {w0 w : World} {l : List Res} (M : Mem S w0 l w) {g : Nat} {u : TypeId} {cs : List Value} {α : Type} {e : TypeId} {f : α → List Value} {sz : Nat} {A : Option Addr} {c : Nat} {xs : List α} {rest : List Res} (t : Takes l [bx g u cs, ow e f sz A c xs] rest) : ¬ ownBlk A = some g := fun h =>
  (List.pairwise_cons.1 (M.sub t).apart).1 (ow e f sz A c xs) (by simp) g rfl h
end Go.Proofs.YtjkfoninjpefmaaGreatDoor
