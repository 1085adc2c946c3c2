/- A region whose order is left open: one walk of one schedule serves every order, where what only reads yields the same in all worlds that the region can come to, and what writes or calls is forced into one order. No program in sight. -/
import Derived.OrdersHeld
import Derived.Tactics
import Derived.Tactics2
import Derived.WalkKit
import Derived.Test.YtjkfoninjpefmaaGreatDoorBase
namespace Go.Proofs.YtjkfoninjpefmaaGreatDoor
set_option linter.unusedSimpArgs false
set_option linter.unusedVariables false
open Go.RowKit

section
variable {P : Program} {ops : Array Oper} {Q : Exit → Act → World → Prop} {md : Region.Mode} {R : World → World → Prop} {m : Nat}

/-- whatever order is picked; behind each operation, but the one that waits for all, the world is related to the one ahead -/
def wpAnyR (P : Program) (md : Region.Mode) (ops : Array Oper) (Q : Exit → Act → World → Prop) (R : World → World → Prop) (m : Nat) : Nat → Array Bool → Act → World → Prop
  | 0, listed, a, w => Region.ready md ops listed = [] ∧ Q .normal a w
  | fuel + 1, listed, a, w =>
    (Region.ready md ops listed = [] → Q .normal a w) ∧
    ∀ i ∈ Region.ready md ops listed, wpOp P ops Q i (fun a' w' => (i ≠ m → R w w') ∧ wpAnyR P md ops Q R m fuel (listed.setIfInBounds i true) a' w') a w

theorem wpAnyR_any : ∀ (fuel : Nat) (listed : Array Bool) (a : Act) (w : World), wpAnyR P md ops Q R m fuel listed a w → wpAny P md ops Q fuel listed a w
  | 0, _, _, _, h => h
  | fuel + 1, _, _, _, h => ⟨h.1, fun i hi => wpOp_mono (fun a' w' h' => wpAnyR_any fuel _ a' w' h'.2) (h.2 i hi)⟩

/-- what is listed has all that it waits for listed -/
def ClosedL (md : Region.Mode) (ops : Array Oper) (listed : Array Bool) : Prop :=
  ∀ j oj, ops[j]? = some oj → listed.getD j false = true → ∀ e ∈ oj.after, Region.binds md e = true → listed.getD e.on false = true

theorem ClosedL.set {i : Nat} {listed : Array Bool} (h : ClosedL md ops listed) (hi : i ∈ Region.ready md ops listed) : ClosedL md ops (listed.setIfInBounds i true) := by
  obtain ⟨_, oi, hoi, hall⟩ := mem_ready.1 hi
  intro j oj hj hl e he hb
  by_cases hij : i = j
  · subst hij
    have : oj = oi := Option.some.inj (hj.symm.trans hoi)
    subst this
    exact getD_set_true (hall e he hb)
  · rw [getD_set_ne false hij] at hl
    exact getD_set_true (h j oj hj hl e he hb)

/-- does operation j wait for i, directly or through others? -/
def reach (md : Region.Mode) (ops : Array Oper) : Nat → Nat → Nat → Bool
  | 0, _, _ => false
  | f + 1, j, i => match ops[j]? with
    | some oj => oj.after.any fun e => Region.binds md e && (e.on == i || reach md ops f e.on i)
    | none => false

theorem reach_listed {listed : Array Bool} (hc : ClosedL md ops listed) : ∀ (f j i : Nat), (∀ oj, ops[j]? = some oj → ∀ e ∈ oj.after, Region.binds md e = true → listed.getD e.on false = true) →
    reach md ops f j i = true → listed.getD i false = true
  | 0, _, _, _, h => by simp [reach] at h
  | f + 1, j, i, hp, h => by
    unfold reach at h
    split at h
    · rename_i oj hj
      obtain ⟨e, he, hb⟩ := Array.any_eq_true'.1 h
      simp only [Bool.and_eq_true, Bool.or_eq_true, beq_iff_eq] at hb
      have hl := hp oj hj e he hb.1
      rcases hb.2 with h1 | h1
      · rw [← h1]; exact hl
      · exact reach_listed hc f e.on i (fun o ho e' he' hb' => hc e.on o ho hl e' he' hb') h1
    · cases h

/-- m waits for all others (or is none of them) -/
def lastB (md : Region.Mode) (ops : Array Oper) (m : Nat) : Bool :=
  decide (ops.size ≤ m) || (List.range ops.size).all fun i => i == m || reach md ops ops.size m i

theorem getD_false_of {listed : Array Bool} {i : Nat} (h : listed.getD i true = false) : listed.getD i false = false := by
  rcases Nat.lt_or_ge i listed.size with h' | h'
  · simp [h'] at h ⊢; exact h
  · simp [Array.getElem?_eq_none h'] at h

theorem last_not_ready {listed : Array Bool} (hc : ClosedL md ops listed) (hl : lastB md ops m = true) {i : Nat} (hi : i < ops.size) (him : i ≠ m) (hun : listed.getD i true = false) : m ∉ Region.ready md ops listed := by
  intro hr
  obtain ⟨_, om, hom, hall⟩ := mem_ready.1 hr
  have hml : m < ops.size := (Array.getElem?_eq_some_iff.1 hom).1
  simp only [lastB, Bool.or_eq_true, decide_eq_true_eq, List.all_eq_true, List.mem_range, beq_iff_eq] at hl
  rcases hl with hl | hl
  · omega
  · rcases hl i hi with h | h
    · exact him h
    · have := reach_listed hc ops.size m i (fun oj hoj => by
        have : oj = om := Option.some.inj (hoj.symm.trans hom)
        subst this
        exact hall) h
      rw [getD_false_of hun] at this
      cases this

theorem wpAnyR_first (hrefl : ∀ w, R w w) (htrans : ∀ a b c, R a b → R b c → R a c) (hlast : lastB md ops m = true) {i : Nat} {oi : Oper} {v : Value} (hi : ops[i]? = some oi) (him : i ≠ m)
    (hsel : ∀ (j : Nat) (o : Oper) cs b, ops[j]? = some o → o.op ≠ .select cs b) (hQ : ∀ c a w, Q (.panic c) (a.put oi.dst v) w → Q (.panic c) a w) :
    ∀ (fuel : Nat) (listed : Array Bool) (a : Act) (w : World), ClosedL md ops listed →
      (∀ j oj, ops[j]? = some oj → j ≠ i → listed.getD j true = false → (∀ e ∈ oj.after, Region.binds md e = true → e.on ≠ i) → oi.apart ops oj = true) →
      i ∈ Region.ready md ops listed → YieldsIf P ops (R w) oi v a →
      wpAnyR P md ops Q R m fuel (listed.setIfInBounds i true) (a.put oi.dst v) w → wpAnyR P md ops Q R m (fuel + 1) listed a w := by
  intro fuel
  induction fuel with
  | zero =>
    intro listed a w _ _ hr hy H
    refine ⟨fun h => (by rw [h] at hr; cases hr), fun j hj => ?_⟩
    by_cases hji : j = i
    · subst hji; exact hy.wpOp hi (hrefl w) ⟨fun _ => hrefl w, H⟩
    · have := ready_mono hj hji
      rw [H.1] at this
      cases this
  | succ fuel ih =>
    intro listed a w hc hfree hr hy H
    refine ⟨fun h => (by rw [h] at hr; cases hr), fun j hj => ?_⟩
    by_cases hji : j = i
    · subst hji; exact hy.wpOp hi (hrefl w) ⟨fun _ => hrefl w, H⟩
    · have h1 := H.2 j (ready_mono hj hji)
      obtain ⟨hjun, oj, hoj, hall⟩ := mem_ready.1 hj
      have hiun := (mem_ready.1 hr).1
      have hjm : j ≠ m := by
        rintro rfl
        exact last_not_ready hc hlast (Array.getElem?_eq_some_iff.1 hi).1 him hiun hj
      have hnot : ∀ e ∈ oj.after, Region.binds md e = true → e.on ≠ i := fun e he hb heq => by
        have h1 := hall e he hb
        rw [heq, getD_false_of hiun] at h1
        cases h1
      have h2 := wpOp_putIf hoj (hfree j oj hoj hji hjun hnot) (fun cs b => hsel i oi cs b hi) (fun cs b => hsel j oj cs b hoj) hQ hy h1
      have hfree' : ∀ k ok, ops[k]? = some ok → k ≠ i → (listed.setIfInBounds j true).getD k true = false →
          (∀ e ∈ ok.after, Region.binds md e = true → e.on ≠ i) → oi.apart ops ok = true := fun k ok hk hki hun hno => by
        refine hfree k ok hk hki ?_ hno
        by_cases hjk : j = k
        · subst hjk; exact hjun
        · rw [getD_set_ne true hjk] at hun; exact hun
      refine wpOp_mono (fun a' w' h3 => ⟨h3.2.1, ih (listed.setIfInBounds j true) a' w' (hc.set hj) hfree' (ready_mono hr (Ne.symm hji)) ?_ ?_⟩) h2
      · have hR := h3.2.1 hjm
        rcases h3.1 with ⟨hw, hv⟩ | hh
        · exact .inl ⟨hw, fun w'' hw'' => hv w'' (htrans _ _ _ hR hw'')⟩
        · exact .inr hh
      · rw [Array.setIfInBounds_comm _ _ hji]
        exact h3.2.2

/-- the walk of one schedule: (i, true): operation i only reads; (i, false): it does something, and nothing else may come up then -/
def wpSch (P : Program) (ops : Array Oper) (Q : Exit → Act → World → Prop) (R : World → World → Prop) (m : Nat) : List (Nat × Bool) → Act → World → Prop
  | [], a, w => Q .normal a w
  | (i, true) :: rest, a, w => ∃ oi v, ops[i]? = some oi ∧ YieldsIf P ops (R w) oi v a ∧ wpSch P ops Q R m rest (a.put oi.dst v) w
  | (i, false) :: rest, a, w => wpOp P ops Q i (fun a' w' => (i ≠ m → R w w') ∧ wpSch P ops Q R m rest a' w') a w

def schOk (md : Region.Mode) (ops : Array Oper) (m : Nat) : List (Nat × Bool) → Array Bool → Bool
  | [], listed => (Region.ready md ops listed).isEmpty
  | (i, true) :: rest, listed => i != m && (Region.ready md ops listed).contains i && Region.free md ops listed i && schOk md ops m rest (listed.setIfInBounds i true)
  | (i, false) :: rest, listed => decide (Region.ready md ops listed = [i]) && schOk md ops m rest (listed.setIfInBounds i true)

theorem wpAnyR_of_sch (hrefl : ∀ w, R w w) (htrans : ∀ a b c, R a b → R b c → R a c) (hlast : lastB md ops m = true) (hs : Region.noSelect ops = true)
    (hQ : ∀ c a d v w, Q (.panic c) (Act.put a d v) w → Q (.panic c) a w) : ∀ (sch : List (Nat × Bool)) (listed : Array Bool) (a : Act) (w : World), ClosedL md ops listed → schOk md ops m sch listed = true →
    wpSch P ops Q R m sch a w → wpAnyR P md ops Q R m sch.length listed a w
  | [], listed, a, w, _, hB, h => ⟨by simpa [schOk] using hB, h⟩
  | (i, true) :: rest, listed, a, w, hc, hB, h => by
    obtain ⟨oi, v, hoi, hy, hk⟩ := h
    simp only [schOk, Bool.and_eq_true, bne_iff_ne, ne_eq] at hB
    obtain ⟨⟨⟨him, hr⟩, hf⟩, hB'⟩ := hB
    have hr' : i ∈ Region.ready md ops listed := by simpa using hr
    exact wpAnyR_first hrefl htrans hlast hoi him (Region.noSelect_spec hs) (fun c a w => hQ c a oi.dst v w) rest.length listed a w hc (Region.free_spec hoi hf) hr' hy
      (wpAnyR_of_sch hrefl htrans hlast hs hQ rest _ _ w (hc.set hr') hB' hk)
  | (i, false) :: rest, listed, a, w, hc, hB, h => by
    simp only [schOk, Bool.and_eq_true, decide_eq_true_eq] at hB
    refine ⟨fun h0 => (by rw [hB.1] at h0; cases h0), fun j hj => ?_⟩
    have hr' : i ∈ Region.ready md ops listed := by rw [hB.1]; simp
    rw [hB.1] at hj
    obtain rfl : j = i := by simpa using hj
    exact wpOp_mono (fun a' w' h' => ⟨h'.1, wpAnyR_of_sch hrefl htrans hlast hs hQ rest _ a' w' (hc.set hr') hB.2 h'.2⟩) h

def regionOk (ops : Array Oper) (m : Nat) (sch : List (Nat × Bool)) : Bool :=
  Region.noSelect ops && lastB .any ops m && decide (sch.length = ops.size) && schOk .any ops m sch (Array.replicate ops.size false)

theorem rep_false (k j : Nat) : (Array.replicate k false).getD j false = false := by
  rcases Nat.lt_or_ge j k with h | h
  · simp [h]
  · simp [h]

theorem wp_region_sch {id : Nat} {l : List Oper} (R : World → World → Prop) (m : Nat) (sch : List (Nat × Bool)) (hm : P.follows .mixedOrders = true) (hB : regionOk l.toArray m sch = true)
    (hrefl : ∀ w, R w w) (htrans : ∀ a b c, R a b → R b c → R a c) {a : Act} {w : World} (hQ : ∀ c a d v w, Q (.panic c) (Act.put a d v) w → Q (.panic c) a w)
    (h : wpSch P l.toArray Q R m sch a w.drew) : (Code.region id l.toArray true).wp P Q a w := by
  simp only [regionOk, Bool.and_eq_true, decide_eq_true_eq] at hB
  obtain ⟨⟨⟨hs, hl⟩, hn⟩, hok⟩ := hB
  refine wp_region_any hm ?_
  have hc : ClosedL .any l.toArray (Array.replicate l.toArray.size false) := fun j oj hj hlj => by
    have := rep_false l.toArray.size j
    rw [this] at hlj
    cases hlj
  have := wpAnyR_of_sch hrefl htrans hl hs hQ sch _ a w.drew hc hok h
  rw [hn] at this
  exact wpAnyR_any _ _ _ _ this

/-- a step that only reads -/
theorem wpSch_q {l : List Oper} {i : Nat} {o : Oper} {rest : List (Nat × Bool)} {a : Act} {w : World} (v : Value) (ho : l[i]? = some o) (hw : Region.wanted o (yielded l.toArray a.tmps) = true)
    (h : ∀ w', R w w' → (execOp a.eval o).run P w' = .ok (.value v) w') (hk : wpSch P l.toArray Q R m rest (a.put o.dst v) w) : wpSch P l.toArray Q R m ((i, true) :: rest) a w :=
  ⟨o, v, by simpa using ho, .inl ⟨hw, h⟩, hk⟩
theorem wpSch_skip {l : List Oper} {i : Nat} {b : Bool} {o : Oper} {rest : List (Nat × Bool)} {a : Act} {w : World} (hrefl : ∀ w, R w w) (ho : l[i]? = some o) (hw : Region.wanted o (yielded l.toArray a.tmps) = false)
    (hk : wpSch P l.toArray Q R m rest (a.put o.dst undef) w) : wpSch P l.toArray Q R m ((i, b) :: rest) a w := by
  have ho' : l.toArray[i]? = some o := by simpa using ho
  cases b
  · unfold wpSch wpOp
    simp only [ho', hw, Bool.false_eq_true, if_false]
    exact ⟨fun _ => hrefl w, hk⟩
  · exact ⟨o, undef, ho', .inr ⟨hw, rfl⟩, hk⟩
/-- a step that does something -/
theorem wpSch_e {l : List Oper} {i : Nat} {o : Oper} {rest : List (Nat × Bool)} {a : Act} {w : World} (ho : l[i]? = some o) (hw : Region.wanted o (yielded l.toArray a.tmps) = true)
    (h : ∀ K : Act → World → Prop, (∀ a' w', (i ≠ m → R w w') → wpSch P l.toArray Q R m rest a' w' → K a' w') → o.wp P a w K Q) : wpSch P l.toArray Q R m ((i, false) :: rest) a w := by
  have ho' : l.toArray[i]? = some o := by simpa using ho
  unfold wpSch wpOp
  simp only [ho', hw, if_true]
  exact .inl (h _ fun a' w' h1 h2 => ⟨h1, h2⟩)
theorem wpSch_nil {a : Act} {w : World} (h : Q .normal a w) : wpSch P ops Q R m [] a w := h
end

/-- of the blocks that S names, as far as they are there, nothing turns -/
def RS (S : Nat → Prop) (w w' : World) : Prop := w.heap.size ≤ w'.heap.size ∧ ∀ b o, S b → b < w.heap.size → w'.cell? ⟨b, o, none⟩ = w.cell? ⟨b, o, none⟩
namespace RS
variable {S : Nat → Prop} {w w' : World}
theorem refl (w : World) : RS S w w := ⟨Nat.le_refl _, fun _ _ _ _ => rfl⟩
theorem trans (a b c : World) (h : RS S a b) (k : RS S b c) : RS S a c := ⟨Nat.le_trans h.1 k.1, fun x o hs hx => (k.2 x o hs (Nat.lt_of_lt_of_le hx h.1)).trans (h.2 x o hs hx)⟩
theorem ext (h : Ext w w') : RS S w w' := ⟨h.size, fun b o _ hb => h.cell (p := ⟨b, o, none⟩) hb⟩
theorem alloc (o : Obj) : RS S w (w.alloc o) := ext (Ext.al w o)
theorem setCell {g i : Nat} (u : Value) (h : ¬ S g) : RS S w (w.setCell ⟨g, i, none⟩ u) :=
  ⟨by simp [World.setCell], fun b o hs _ => World.cell?_setCell_other w _ _ u (by rintro e; cases e; exact h hs)⟩
theorem box {t : TypeId} {cs : Array Value} {g : Nat} (hz : w.heap.size ≤ w'.heap.size) (h : Box w g t cs) (h' : Box w' g t cs) : RS (· = g) w w' :=
  ⟨hz, fun b o hs _ => by subst hs; rw [h.cell, h'.cell]⟩
end RS
end Go.Proofs.YtjkfoninjpefmaaGreatDoor
