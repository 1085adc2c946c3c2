/- A region whose order is left open, where two things that do something may come up at once: both orders are walked. No program in sight. -/
import Derived.Test.YtjkfoninjpefmaaGreatDoorRegion
namespace Go.Proofs.YtjkfoninjpefmaaGreatDoor
set_option linter.unusedSimpArgs false
set_option linter.unusedVariables false
open Go.RowKit

inductive Tr where
  | done : Tr
  | q : Nat → Tr → Tr
  | e : Nat → Tr → Tr
  | fork : Nat → Nat → Tr → Tr → Tr
def Tr.len : Tr → Nat
  | .done => 0
  | .q _ t => t.len + 1
  | .e _ t => t.len + 1
  | .fork _ _ a _ => a.len + 1
section
variable {P : Program} {ops : Array Oper} {Q : Exit → Act → World → Prop} {md : Region.Mode} {R : World → World → Prop} {m : Nat}

def wpTr (P : Program) (ops : Array Oper) (Q : Exit → Act → World → Prop) (R : World → World → Prop) (m : Nat) : Tr → Act → World → Prop
  | .done, a, w => Q .normal a w
  | .q i t, a, w => ∃ oi v, ops[i]? = some oi ∧ YieldsIf P ops (R w) oi v a ∧ wpTr P ops Q R m t (a.put oi.dst v) w
  | .e i t, a, w => wpOp P ops Q i (fun a' w' => (i ≠ m → R w w') ∧ wpTr P ops Q R m t a' w') a w
  | .fork i j s t, a, w => wpOp P ops Q i (fun a' w' => (i ≠ m → R w w') ∧ wpTr P ops Q R m s a' w') a w ∧ wpOp P ops Q j (fun a' w' => (j ≠ m → R w w') ∧ wpTr P ops Q R m t a' w') a w
def trOk (md : Region.Mode) (ops : Array Oper) (m : Nat) : Tr → Array Bool → Bool
  | .done, listed => (Region.ready md ops listed).isEmpty
  | .q i t, listed => i != m && (Region.ready md ops listed).contains i && Region.free md ops listed i && trOk md ops m t (listed.setIfInBounds i true)
  | .e i t, listed => decide (Region.ready md ops listed = [i]) && trOk md ops m t (listed.setIfInBounds i true)
  | .fork i j s t, listed => decide (Region.ready md ops listed = [i, j]) && decide (s.len = t.len) && trOk md ops m s (listed.setIfInBounds i true) && trOk md ops m t (listed.setIfInBounds j true)

theorem wpAnyR_of_tr (hrefl : ∀ w, R w w) (htrans : ∀ a b c, R a b → R b c → R a c) (hlast : lastB md ops m = true) (hs : Region.noSelect ops = true)
    (hQ : ∀ c a d v w, Q (.panic c) (Act.put a d v) w → Q (.panic c) a w) : ∀ (t : Tr) (listed : Array Bool) (a : Act) (w : World), ClosedL md ops listed → trOk md ops m t listed = true →
    wpTr P ops Q R m t a w → wpAnyR P md ops Q R m t.len listed a w
  | .done, listed, a, w, _, hB, h => ⟨by simpa [trOk] using hB, h⟩
  | .q i rest, listed, a, w, hc, hB, h => by
    obtain ⟨oi, v, hoi, hy, hk⟩ := h
    simp only [trOk, Bool.and_eq_true, bne_iff_ne, ne_eq] at hB
    obtain ⟨⟨⟨him, hr⟩, hf⟩, hB'⟩ := hB
    have hr' : i ∈ Region.ready md ops listed := by simpa using hr
    exact wpAnyR_first hrefl htrans hlast hoi him (Region.noSelect_spec hs) (fun c a w => hQ c a oi.dst v w) rest.len listed a w hc (Region.free_spec hoi hf) hr' hy
      (wpAnyR_of_tr hrefl htrans hlast hs hQ rest _ _ w (hc.set hr') hB' hk)
  | .e i rest, listed, a, w, hc, hB, h => by
    simp only [trOk, Bool.and_eq_true, decide_eq_true_eq] at hB
    refine ⟨fun h0 => (by rw [hB.1] at h0; cases h0), fun j hj => ?_⟩
    have hr' : i ∈ Region.ready md ops listed := by rw [hB.1]; simp
    rw [hB.1] at hj
    obtain rfl : j = i := by simpa using hj
    exact wpOp_mono (fun a' w' h' => ⟨h'.1, wpAnyR_of_tr hrefl htrans hlast hs hQ rest _ a' w' (hc.set hr') hB.2 h'.2⟩) h
  | .fork i j s t, listed, a, w, hc, hB, h => by
    simp only [trOk, Bool.and_eq_true, decide_eq_true_eq] at hB
    obtain ⟨⟨⟨hr, hl⟩, hBs⟩, hBt⟩ := hB
    refine ⟨fun h0 => (by rw [hr] at h0; cases h0), fun k hk => ?_⟩
    have hri : i ∈ Region.ready md ops listed := by rw [hr]; simp
    have hrj : j ∈ Region.ready md ops listed := by rw [hr]; simp
    rw [hr] at hk
    have hk' : k = i ∨ k = j := by simpa using hk
    rcases hk' with rfl | rfl
    · exact wpOp_mono (fun a' w' h' => ⟨h'.1, wpAnyR_of_tr hrefl htrans hlast hs hQ s _ a' w' (hc.set hri) hBs h'.2⟩) h.1
    · exact wpOp_mono (fun a' w' h' => ⟨h'.1, by have := wpAnyR_of_tr hrefl htrans hlast hs hQ t _ a' w' (hc.set hrj) hBt h'.2; rwa [← hl] at this⟩) h.2

def regionOk2 (ops : Array Oper) (m : Nat) (t : Tr) : Bool :=
  Region.noSelect ops && lastB .any ops m && decide (t.len = ops.size) && trOk .any ops m t (Array.replicate ops.size false)
theorem wp_region_tr {id : Nat} {l : List Oper} (R : World → World → Prop) (m : Nat) (t : Tr) (hm : P.follows .mixedOrders = true) (hB : regionOk2 l.toArray m t = true)
    (hrefl : ∀ w, R w w) (htrans : ∀ a b c, R a b → R b c → R a c) {a : Act} {w : World} (hQ : ∀ c a d v w, Q (.panic c) (Act.put a d v) w → Q (.panic c) a w)
    (h : wpTr P l.toArray Q R m t a w.drew) : (Code.region id l.toArray true).wp P Q a w := by
  simp only [regionOk2, Bool.and_eq_true, decide_eq_true_eq] at hB
  obtain ⟨⟨⟨hs, hl⟩, hn⟩, hok⟩ := hB
  refine wp_region_any hm ?_
  have hc : ClosedL .any l.toArray (Array.replicate l.toArray.size false) := fun j oj hj hlj => by
    have := rep_false l.toArray.size j
    rw [this] at hlj
    cases hlj
  have := wpAnyR_of_tr hrefl htrans hl hs hQ t _ a w.drew hc hok h
  rw [hn] at this
  exact wpAnyR_any _ _ _ _ this
theorem wpTr_q {l : List Oper} {i : Nat} {o : Oper} {rest : Tr} {a : Act} {w : World} (v : Value) (ho : l[i]? = some o) (hw : Region.wanted o (yielded l.toArray a.tmps) = true)
    (h : ∀ w', R w w' → (execOp a.eval o).run P w' = .ok (.value v) w') (hk : wpTr P l.toArray Q R m rest (a.put o.dst v) w) : wpTr P l.toArray Q R m (.q i rest) a w :=
  ⟨o, v, by simpa using ho, .inl ⟨hw, h⟩, hk⟩
theorem wpTr_e {l : List Oper} {i : Nat} {o : Oper} {rest : Tr} {a : Act} {w : World} (ho : l[i]? = some o) (hw : Region.wanted o (yielded l.toArray a.tmps) = true)
    (h : ∀ K : Act → World → Prop, (∀ a' w', (i ≠ m → R w w') → wpTr P l.toArray Q R m rest a' w' → K a' w') → o.wp P a w K Q) : wpTr P l.toArray Q R m (.e i rest) a w := by
  have ho' : l.toArray[i]? = some o := by simpa using ho
  unfold wpTr wpOp
  simp only [ho', hw, if_true]
  exact .inl (h _ fun a' w' h1 h2 => ⟨h1, h2⟩)
theorem wpTr_fork {l : List Oper} {i j : Nat} {s t : Tr} {a : Act} {w : World} (h1 : wpTr P l.toArray Q R m (.e i s) a w) (h2 : wpTr P l.toArray Q R m (.e j t) a w) : wpTr P l.toArray Q R m (.fork i j s t) a w := by
  unfold wpTr at *
  exact ⟨h1, h2⟩
theorem wpTr_done {a : Act} {w : World} (h : Q .normal a w) : wpTr P ops Q R m .done a w := h
end
end Go.Proofs.YtjkfoninjpefmaaGreatDoor
