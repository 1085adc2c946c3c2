/- A run of an activity (layer 18): what holds of it whatever befalls it. No program in sight. -/
import Derived.Test.YtjmdbgbkmjlmdaaActs2
namespace Go.Proofs.Ytjmdbgbkmjlmdaa
set_option linter.unusedSimpArgs false
set_option linter.unusedVariables false
open Go.RowKit

/-- what an activity is after k things befell it -/
structure Lives (o : OptV) (k : Nat) (a : ActV) : Prop where
  event : a.event = 3
  opts : a.opts = 0
  input : a.input = 0
  at_ : a.at_ = 0
  phase : a.phase = 1 ∨ a.phase = 2 ∨ a.phase = 3
  att : 1 ≤ a.attempt ∧ a.attempt ≤ (k : Int) + 1
  tries : o.tries ≠ 0 → a.attempt ≤ o.tries
  waits : a.phase = 3 → (o.tries ≠ 0 → a.attempt < o.tries) ∧ (o.total ≠ 0 → a.again < o.total)
  since : 0 ≤ a.since ∧ a.since ≤ 64 * (k : Int)
  beat : 0 ≤ a.beat ∧ a.beat ≤ 64 * (k : Int)
  again : 0 ≤ a.again ∧ a.again ≤ 64 * (k : Int) + 1048576
  detail : I64 a.detail
theorem Lives.start (o : OptV) (h : o.May) : Lives o 0 (newOf 3 0 0 0) := by
  have := h.tries
  exact ⟨rfl, rfl, rfl, rfl, .inl rfl, by simp [newOf], fun _ => by show (1 : Int) ≤ o.tries; omega, (fun h => by simp [newOf] at h), by simp [newOf], by simp [newOf], by simp [newOf], by simp [newOf, I64]⟩
theorem Lives.ok {o : OptV} {k : Nat} {a : ActV} (h : Lives o k a) (hk : k ≤ 1099511627776) : a.Ok := by
  have h1 := h.event; have h2 := h.opts; have h3 := h.input; have h4 := h.at_; have h5 := h.phase; have h6 := h.att; have h7 := h.since; have h8 := h.beat; have h9 := h.again
  refine ⟨?_, ?_, ?_, ?_, ?_, ?_, ?_, ?_, h.detail, ?_⟩ <;> (first | unfold I64 | unfold T62) <;> omega
theorem Lives.mono {o : OptV} {k : Nat} {a : ActV} (h : Lives o k a) : Lives o (k + 1) a := by
  have h6 := h.att; have h7 := h.since; have h8 := h.beat; have h9 := h.again
  exact ⟨h.event, h.opts, h.input, h.at_, h.phase, by omega, h.tries, h.waits, by omega, by omega, by omega, h.detail⟩
/-- what one thing makes of it -/
def actStep (o : OptV) (a : ActV) (kind att which value now : Int) : ActV × EvV × Int :=
  if kind = 1 then ((holdOf a now).1, noEv, (holdOf a now).2)
  else if kind = 2 then ((beatOf a att value now).1, noEv, (beatOf a att value now).2)
  else if kind = 3 then (a, (doneOf a att value).1, (doneOf a att value).2)
  else if kind = 4 then brokenOf o a att value now
  else if kind = 5 then lateOf o a which now
  else (a, noEv, 48)
/-- what the statement asks of one step that goes on -/
structure StepOk (o : OptV) (a b : ActV) : Prop where
  att : b.attempt = a.attempt ∨ (b.attempt = a.attempt + 1 ∧ a.phase = 3 ∧ b.phase = 1)
  tries : o.tries ≠ 0 → b.attempt ≤ o.tries
  at_ : b.at_ = 0
  event : b.event = 3
  total : o.total ≠ 0 → b.phase = 3 → b.again < o.total
theorem dues_wait {o : OptV} {a : ActV} (h : a.phase = 3) : 0 < (duesOf o a).length := by
  have : (⟨a.again, 0⟩ : DueV) ∈ duesOf o a := by
    rw [duesOf_mem]
    unfold dueList
    simp [h]
  exact List.length_pos_of_mem this
theorem dues_close {o : OptV} (ho : o.May) {a : ActV} (h : a.phase = 2) (hc : o.close ≠ 0) : 0 < (duesOf o a).length := by
  have hcl := ho.close
  have : (⟨a.since + o.close, 2⟩ : DueV) ∈ duesOf o a := by
    rw [duesOf_mem]
    unfold dueList due1
    rw [if_pos h, if_pos (show 0 < o.close by omega)]
    simp
  exact List.length_pos_of_mem this
theorem due_zero {o : OptV} {a : ActV} {x : DueV} (h : x ∈ duesOf o a) (h0 : x.kind = 0) : a.phase = 3 := by
  rw [duesOf_mem] at h
  simp only [dueList, List.mem_append] at h
  rcases h with h | h | h | h
  · have := due1_kind h; omega
  · split at h
    · have := due1_kind h; omega
    · cases h
  · split at h
    · rcases List.mem_append.1 h with h | h <;> (have := due1_kind h; omega)
    · cases h
  · split at h
    · assumption
    · cases h
theorem isDue_zero {o : OptV} {a : ActV} {now : Int} (h : isDue o a 0 now = true) : a.phase = 3 := by
  unfold isDue at h
  rw [List.any_eq_true] at h
  obtain ⟨x, hx, h⟩ := h
  simp at h
  exact due_zero hx h.1
/-- an attempt that came to nothing: it goes on, or ends by the event -/
theorem fails_facts {o : OptV} (ho : o.May) {k : Nat} {a : ActV} (h : Lives o k a) {code now : Int} (hn : 0 ≤ now ∧ now ≤ 64 * ((k : Int) + 1)) (over : EvV) :
    ((failsOf o a code now over).2 = over ∧ (failsOf o a code now over).1 = a) ∨ ((failsOf o a code now over).2 = noEv ∧ StepOk o a (failsOf o a code now over).1 ∧ Lives o (k + 1) (failsOf o a code now over).1) := by
  unfold failsOf
  by_cases hov : over17 o a.attempt code a.at_ now = true
  · left
    have : againOf o a.attempt code a.at_ now = (0, false) := by unfold againOf; rw [if_pos hov]
    rw [this]
    exact ⟨rfl, rfl⟩
  · right
    have e : againOf o a.attempt code a.at_ now = (now + waitOf o a.attempt, true) := by unfold againOf; rw [if_neg hov]
    rw [e]
    have hw := waitOf_facts ho a.attempt
    have hat := h.at_
    have h6 := h.att; have h7 := h.since; have h8 := h.beat; have h9 := h.again
    unfold over17 at hov
    simp only [Bool.or_eq_true, Bool.and_eq_true, decide_eq_true_eq, not_or, not_and] at hov
    obtain ⟨⟨-, h2⟩, h3⟩ := hov
    have ht : o.tries ≠ 0 → a.attempt < o.tries := fun hh => by have := h2 hh; omega
    have htt : o.total ≠ 0 → now + waitOf o a.attempt < o.total := fun hh => by have := h3 hh; omega
    refine ⟨rfl, ⟨.inl rfl, fun hh => ?_, hat, h.event, fun hh _ => htt hh⟩, ⟨h.event, h.opts, h.input, hat, .inr (.inr rfl), ?_, fun hh => ?_, fun _ => ⟨ht, htt⟩, ?_, ?_, ?_, h.detail⟩⟩
    · have := ht hh; show a.attempt ≤ o.tries; omega
    · show 1 ≤ a.attempt ∧ a.attempt ≤ ((k + 1 : Nat) : Int) + 1; omega
    · have := ht hh; show a.attempt ≤ o.tries; omega
    · show 0 ≤ now ∧ now ≤ 64 * ((k + 1 : Nat) : Int); omega
    · show 0 ≤ a.beat ∧ a.beat ≤ 64 * ((k + 1 : Nat) : Int); omega
    · show 0 ≤ now + waitOf o a.attempt ∧ now + waitOf o a.attempt ≤ 64 * ((k + 1 : Nat) : Int) + 1048576; omega
/-- an event of its end -/
structure EndOk (a : ActV) (e : EvV) : Prop where
  ea : e.a = 3
  ec : e.c = a.attempt
  ekind : 22 ≤ e.kind ∧ e.kind ≤ 24
theorem step_facts {o : OptV} (ho : o.May) {k : Nat} {a : ActV} (h : Lives o k a) (kind att which value now : Int) (hv : I64 value) (hn : 0 ≤ now ∧ now ≤ 64 * ((k : Int) + 1)) :
    (actStep o a kind att which value now).2.2 = 0 →
      EndOk a (actStep o a kind att which value now).2.1 ∨ ((actStep o a kind att which value now).2.1 = noEv ∧ StepOk o a (actStep o a kind att which value now).1 ∧ Lives o (k + 1) (actStep o a kind att which value now).1) := by
  have hev := h.event
  have h6 := h.att; have h7 := h.since; have h8 := h.beat; have h9 := h.again
  have hend : ∀ kd b : Int, 22 ≤ kd → kd ≤ 24 → EndOk a (endOf a kd b) := fun kd b h1 h2 => ⟨hev, rfl, h1, h2⟩
  have htr := h.tries
  unfold actStep
  by_cases c1 : kind = 1
  · rw [if_pos c1]
    unfold holdOf
    by_cases p : a.phase = 1
    · rw [if_pos p]
      intro _
      refine .inr ⟨rfl, ⟨.inl rfl, htr, h.at_, hev, (fun _ hp => by exact absurd hp (by simp))⟩, ⟨hev, h.opts, h.input, h.at_, .inr (.inl rfl), ?_, htr, (fun hp => by exact absurd hp (by simp)), ?_, ?_, ?_, h.detail⟩⟩
      · show 1 ≤ a.attempt ∧ a.attempt ≤ ((k + 1 : Nat) : Int) + 1; omega
      · show 0 ≤ now ∧ now ≤ 64 * ((k + 1 : Nat) : Int); omega
      · show 0 ≤ now ∧ now ≤ 64 * ((k + 1 : Nat) : Int); omega
      · show 0 ≤ a.again ∧ a.again ≤ 64 * ((k + 1 : Nat) : Int) + 1048576; omega
    · rw [if_neg p]; intro hh; cases hh
  rw [if_neg c1]
  by_cases c2 : kind = 2
  · rw [if_pos c2]
    unfold beatOf
    by_cases p : heldBy a att = true
    · rw [if_pos p]
      intro _
      have hp : a.phase = 2 := by unfold heldBy at p; simp at p; exact p.1
      refine .inr ⟨rfl, ⟨.inl rfl, htr, h.at_, hev, (fun _ hp' => by exact absurd (hp.symm.trans hp') (by simp))⟩, ⟨hev, h.opts, h.input, h.at_, h.phase, ?_, htr, (fun hp' => by exact absurd (hp.symm.trans hp') (by simp)), ?_, ?_, ?_, hv⟩⟩
      · show 1 ≤ a.attempt ∧ a.attempt ≤ ((k + 1 : Nat) : Int) + 1; omega
      · show 0 ≤ a.since ∧ a.since ≤ 64 * ((k + 1 : Nat) : Int); omega
      · show 0 ≤ now ∧ now ≤ 64 * ((k + 1 : Nat) : Int); omega
      · show 0 ≤ a.again ∧ a.again ≤ 64 * ((k + 1 : Nat) : Int) + 1048576; omega
    · rw [if_neg p]; intro hh; cases hh
  rw [if_neg c2]
  by_cases c3 : kind = 3
  · rw [if_pos c3]
    unfold doneOf
    by_cases p : heldBy a att = true
    · rw [if_pos p]; intro _; exact .inl (hend _ _ (by omega) (by omega))
    · rw [if_neg p]; intro hh; cases hh
  rw [if_neg c3]
  by_cases c4 : kind = 4
  · rw [if_pos c4]
    unfold brokenOf
    by_cases p : heldBy a att = true
    · rw [if_pos p]
      intro _
      rcases fails_facts ho h hn (code := value) (endOf a 23 value) with ⟨f1, _⟩ | hf
      · exact .inl (by rw [f1]; exact hend _ _ (by omega) (by omega))
      · exact .inr hf
    · rw [if_neg p]; intro hh; cases hh
  rw [if_neg c4]
  by_cases c5 : kind = 5
  · rw [if_pos c5]
    unfold lateOf
    by_cases p : isDue o a which now = true
    · rw [if_pos p]
      by_cases w23 : which = 2 ∨ which = 3
      · rw [if_pos w23]
        intro _
        rcases fails_facts ho h hn (code := 0) (endOf a 24 which) with ⟨f1, _⟩ | hf
        · exact .inl (by rw [f1]; exact hend _ _ (by omega) (by omega))
        · exact .inr hf
      · rw [if_neg w23]
        by_cases w14 : which = 1 ∨ which = 4
        · rw [if_pos w14]; intro _; exact .inl (hend _ _ (by omega) (by omega))
        · rw [if_neg w14]
          intro _
          have hk := isDue_kind p
          obtain rfl : which = 0 := by omega
          have hp := isDue_zero p
          obtain ⟨hw1, hw2⟩ := h.waits hp
          refine .inr ⟨rfl, ⟨.inr ⟨rfl, hp, rfl⟩, fun hh => ?_, h.at_, hev, (fun _ hp' => by exact absurd hp' (by simp))⟩, ⟨hev, h.opts, h.input, h.at_, .inl rfl, ?_, fun hh => ?_, (fun hp' => by exact absurd hp' (by simp)), ?_, ?_, ?_, h.detail⟩⟩
          · have := hw1 hh; show a.attempt + 1 ≤ o.tries; omega
          · show 1 ≤ a.attempt + 1 ∧ a.attempt + 1 ≤ ((k + 1 : Nat) : Int) + 1; omega
          · have := hw1 hh; show a.attempt + 1 ≤ o.tries; omega
          · show 0 ≤ now ∧ now ≤ 64 * ((k + 1 : Nat) : Int); omega
          · show (0 : Int) ≤ 0 ∧ (0 : Int) ≤ 64 * ((k + 1 : Nat) : Int); omega
          · show (0 : Int) ≤ 0 ∧ (0 : Int) ≤ 64 * ((k + 1 : Nat) : Int) + 1048576; omega
    · rw [if_neg p]; intro hh; cases hh
  · rw [if_neg c5]; intro hh; cases hh
/-- what comes of one thing, as the statement asks of it -/
structure Outc (o : OptV) (k : Nat) (a : ActV) (kd at1 x : Int) (b : ActV) (e : EvV) : Prop where
  check : 2 ≤ kd → kd ≤ 4 → (x = 0 ↔ a.phase = 2 ∧ at1 = a.attempt)
  out : x = 0 → EndOk a e ∨ (e = noEv ∧ StepOk o a b ∧ Lives o (k + 1) b)
theorem outc {o : OptV} (ho : o.May) {k : Nat} {a : ActV} (h : Lives o k a) {kind att which value now : Int} (hv : I64 value) (hn : 0 ≤ now ∧ now ≤ 64 * ((k : Int) + 1)) {b : ActV} {e : EvV} {x : Int} (hS : actStep o a kind att which value now = (b, e, x)) : Outc o k a kind att x b e := by
  refine ⟨fun h1 h2 => ?_, ?_⟩
  · have hh : heldBy a att = true ↔ a.phase = 2 ∧ att = a.attempt := by
      unfold heldBy
      simp only [Bool.and_eq_true, decide_eq_true_eq]
      exact ⟨fun ⟨p, q⟩ => ⟨p, q.symm⟩, fun ⟨p, q⟩ => ⟨p, q.symm⟩⟩
    have e2 : x = (actStep o a kind att which value now).2.2 := by rw [hS]
    rw [e2, ← hh]
    have h3 : kind = 2 ∨ kind = 3 ∨ kind = 4 := by omega
    rcases h3 with rfl | rfl | rfl <;> by_cases p : heldBy a att = true <;> simp [actStep, beatOf, doneOf, brokenOf, p]
  · have := step_facts ho h kind att which value now hv hn
    rw [hS] at this
    exact this
section
variable {o : OptV} {a b : ActV} {att wh va now x : Int} {e : EvV}
theorem actStep1 (h : actStep o a 1 att wh va now = (b, e, x)) : holdOf a now = (b, x) ∧ e = noEv := by
  simp only [actStep, if_pos, Prod.mk.injEq] at h
  exact ⟨Prod.ext h.1 h.2.2, h.2.1.symm⟩
theorem actStep2 (h : actStep o a 2 att wh va now = (b, e, x)) : beatOf a att va now = (b, x) ∧ e = noEv := by
  unfold actStep at h
  rw [if_neg (by decide), if_pos rfl] at h
  simp only [Prod.mk.injEq] at h
  exact ⟨Prod.ext h.1 h.2.2, h.2.1.symm⟩
theorem actStep3 (h : actStep o a 3 att wh va now = (b, e, x)) : doneOf a att va = (e, x) ∧ b = a := by
  unfold actStep at h
  rw [if_neg (by decide), if_neg (by decide), if_pos rfl] at h
  simp only [Prod.mk.injEq] at h
  exact ⟨Prod.ext h.2.1 h.2.2, h.1.symm⟩
theorem actStep4 (h : actStep o a 4 att wh va now = (b, e, x)) : brokenOf o a att va now = (b, e, x) := by
  unfold actStep at h
  rw [if_neg (by decide), if_neg (by decide), if_neg (by decide), if_pos rfl] at h
  exact h
theorem actStep5 (h : actStep o a 5 att wh va now = (b, e, x)) : lateOf o a wh now = (b, e, x) := by
  unfold actStep at h
  rw [if_neg (by decide), if_neg (by decide), if_neg (by decide), if_neg (by decide), if_pos rfl] at h
  exact h
theorem actStep6 {kd : Int} (h1 : kd ≠ 1) (h2 : kd ≠ 2) (h3 : kd ≠ 3) (h4 : kd ≠ 4) (h5 : kd ≠ 5) (h : actStep o a kd att wh va now = (b, e, x)) : b = a ∧ e = noEv ∧ x = 48 := by
  unfold actStep at h
  rw [if_neg h1, if_neg h2, if_neg h3, if_neg h4, if_neg h5] at h
  simp only [Prod.mk.injEq] at h
  exact ⟨h.1.symm, h.2.1.symm, h.2.2.symm⟩
theorem hold_out (h : holdOf a now = (b, x)) : (a.phase = 1 ∧ x = 0) ∨ (a.phase ≠ 1 ∧ x = 48) := by
  unfold holdOf at h
  by_cases p : a.phase = 1
  · rw [if_pos p] at h
    exact .inl ⟨p, (congrArg Prod.snd h).symm⟩
  · rw [if_neg p] at h
    exact .inr ⟨p, (congrArg Prod.snd h).symm⟩
end
end Go.Proofs.Ytjmdbgbkmjlmdaa
