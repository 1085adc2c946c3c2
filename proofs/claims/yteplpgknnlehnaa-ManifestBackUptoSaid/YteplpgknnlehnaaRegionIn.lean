/- A region whose order is open inside a round of a loop over a function: the schedule's law of Region, there. No program in sight. -/
import Derived.Test.YteplpgknnlehnaaRegion
import Derived.OrdersIn
import Derived.OwnWalkIn
import Derived.ControlIn
import Derived.RangeFuncCalls
namespace Go.Proofs.Yteplpgknnlehnaa
set_option linter.unusedSimpArgs false
set_option linter.unusedVariables false
open Go.RowKit

def plainOp : Op → Bool
  | .defer _ => false
  | _ => true
section
variable {P : Program} {n lp : Nat} {Q : Exit → Act → World → Prop}
theorem wpIn_of_wp {o : Oper} {a : Act} {w : World} {K : Act → World → Prop} (ho : plainOp o.op = true) (h : o.wp P a w K Q) : o.wpIn (Fence.wide.inRound lp) n P a w K Q := by
  unfold Oper.wpIn
  unfold Oper.wp at h
  refine ⟨fun f _ => trivial, ?_⟩
  rw [Oper.semAt_plain _ _ _ (fun c e => by rw [e] at ho; cases ho)]
  generalize (execOp a.eval o).run P w = r at *
  cases r with
  | ok x w' =>
    cases x with
    | value v => exact h
    | skip => exact h
    | defer d => exact h
    | enter f args => exact ⟨fun e => (by cases e), CallsIn.inRound lp (callsIn_wide.2 h)⟩
    | row r args =>
      refine ⟨fun e => (by cases e), fun c cs _ => ?_⟩
      obtain ⟨v, w', r, s⟩ := h c cs
      exact ⟨v, w', r, stepsIn_wide.2 s⟩
    | _ => exact h.elim
  | halt x w' => cases x <;> exact h
theorem wpAnyIn_of_wpAny {md : Region.Mode} {ops : Array Oper} (hops : ops.all (fun o => plainOp o.op) = true) (hL : ¬ LetsOut Q) : ∀ (fuel : Nat) (listed : Array Bool) (a : Act) (w : World), wpAny P md ops Q fuel listed a w → wpAnyIn (Fence.wide.inRound lp) n P md ops Q fuel listed a w
  | 0, _, _, _, h => h
  | fuel + 1, listed, a, w, h => by
    refine ⟨h.1, fun i hi => ?_⟩
    have h2 := h.2 i hi
    unfold wpOp at h2
    unfold wpOpIn
    split
    · rename_i hn
      rw [hn] at h2
      exact wpAnyIn_of_wpAny hops hL fuel _ _ _ h2
    · rename_i o ho
      rw [ho] at h2
      dsimp only at h2
      have hp : plainOp o.op = true := by
        obtain ⟨hlt, he⟩ := Array.getElem?_eq_some_iff.1 ho
        have := (Array.all_eq_true.1 hops) i hlt
        rw [he] at this
        exact this
      split
      · rename_i hw
        rw [if_pos hw] at h2
        rcases h2 with h2 | h2
        · exact Oper.wpIn_mono (fun a w h => wpAnyIn_of_wpAny hops hL fuel _ a w h) (wpIn_of_wp hp h2)
        · exact (hL h2.2).elim
      · rename_i hw
        rw [if_neg hw] at h2
        exact ⟨fun _ _ => trivial, wpAnyIn_of_wpAny hops hL fuel _ _ _ h2⟩
/-- as wp_region_sch, in a round -/
theorem wpIn_region_sch {id : Nat} {l : List Oper} (R : World → World → Prop) (m : Nat) (sch : List (Nat × Bool)) (hm : P.follows .mixedOrders = true) (hB : regionOk l.toArray m sch = true) (hops : l.toArray.all (fun o => plainOp o.op) = true) (hL : ¬ LetsOut Q)
    (hrefl : ∀ w, R w w) (htrans : ∀ a b c, R a b → R b c → R a c) {a : Act} {w : World} (hQ : ∀ c a d v w, Q (.panic c) (Act.put a d v) w → Q (.panic c) a w)
    (h : wpSch P l.toArray Q R m sch a w.drew) : (Code.region id l.toArray true).wpIn (Fence.wide.inRound lp) n P Q a w := by
  simp only [regionOk, Bool.and_eq_true, decide_eq_true_eq] at hB
  obtain ⟨⟨⟨hs, hl⟩, hn⟩, hok⟩ := hB
  refine wpIn_region_any hm (wpAnyIn_of_wpAny hops hL _ _ _ _ ?_)
  have hc : ClosedL .any l.toArray (Array.replicate l.toArray.size false) := fun j oj hj hlj => by
    have := rep_false l.toArray.size j
    rw [this] at hlj
    cases hlj
  have := wpAnyR_of_sch hrefl htrans hl hs hQ sch _ a w.drew hc hok h
  rw [hn] at this
  exact wpAnyR_any _ _ _ _ this
/-- what a code without a jump leaves -/
def onlyNormal (Q : Exit → Act → World → Prop) : Exit → Act → World → Prop
  | .normal, a, w => Q .normal a w
  | _, _, _ => False
theorem wp_region_sch0 {id : Nat} {l : List Oper} (R : World → World → Prop) (m : Nat) (sch : List (Nat × Bool)) (hm : P.follows .mixedOrders = true) (hB : regionOk l.toArray m sch = true)
    (hrefl : ∀ w, R w w) (htrans : ∀ a b c, R a b → R b c → R a c) {a : Act} {w : World} (h : wpSch P l.toArray (onlyNormal Q) R m sch a w.drew) : (Code.region id l.toArray true).wp P Q a w :=
  wp_mono (wp_region_sch (Q := onlyNormal Q) R m sch hm hB hrefl htrans (fun _ _ _ _ _ h => h) h) (fun e a w h => by cases e <;> first | exact h | exact h.elim)
end
end Go.Proofs.Yteplpgknnlehnaa
