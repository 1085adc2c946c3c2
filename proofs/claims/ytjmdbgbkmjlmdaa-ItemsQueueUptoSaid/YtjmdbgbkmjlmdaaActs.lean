/- Activities (layers 17 and 18), as plain functions: what one waits, what is due, what becomes of an attempt. No program in sight. -/
import Derived.Test.YtjmdbgbkmjlmdaaBase
namespace Go.Proofs.Ytjmdbgbkmjlmdaa
set_option linter.unusedSimpArgs false
set_option linter.unusedVariables false
open Go.RowKit

/-- a number as a value -/
abbrev iv (x : Int) : Value := .int .i64 x
structure OptV where
  queue : Int
  start : Int
  close : Int
  total : Int
  beat : Int
  first : Int
  num : Int
  den : Int
  most : Int
  tries : Int
  never : Int
def OptV.cells (o : OptV) : Array Value := #[iv o.queue, iv o.start, iv o.close, iv o.total, iv o.beat, iv o.first, iv o.num, iv o.den, iv o.most, iv o.tries, iv o.never]
structure ActV where
  event : Int
  opts : Int
  input : Int
  at_ : Int
  attempt : Int
  phase : Int
  since : Int
  beat : Int
  detail : Int
  again : Int
def ActV.cells (a : ActV) : Array Value := #[iv a.event, iv a.opts, iv a.input, iv a.at_, iv a.attempt, iv a.phase, iv a.since, iv a.beat, iv a.detail, iv a.again]
def noAct : ActV := ⟨0, 0, 0, 0, 0, 0, 0, 0, 0, 0⟩
structure DueV where
  at_ : Int
  kind : Int
deriving DecidableEq
def DueV.cells (d : DueV) : List Value := [iv d.at_, iv d.kind]
structure EvV where
  kind : Int
  a : Int
  b : Int
  c : Int
def EvV.cells (e : EvV) : Array Value := #[iv 0, iv 0, iv e.kind, iv e.a, iv e.b, iv e.c, iv 0, iv 0, iv 0]
def noEv : EvV := ⟨0, 0, 0, 0⟩

def I64 (x : Int) : Prop := -9223372036854775808 ≤ x ∧ x ≤ 9223372036854775807
/-- the options that may be -/
structure OptV.May (o : OptV) : Prop where
  start : 0 ≤ o.start ∧ o.start ≤ 1048576
  close : 0 ≤ o.close ∧ o.close ≤ 1048576
  total : 0 ≤ o.total ∧ o.total ≤ 1048576
  beat : 0 ≤ o.beat ∧ o.beat ≤ 1048576
  first : 0 ≤ o.first ∧ o.first ≤ 1048576
  most : 0 ≤ o.most ∧ o.most ≤ 1048576
  queue : 0 ≤ o.queue ∧ o.queue < 8
  den : 1 ≤ o.den ∧ o.den ≤ 1000
  num : o.den ≤ o.num ∧ o.num ≤ 1000
  tries : 0 ≤ o.tries ∧ o.tries ≤ 1000
/-- times that do not run over -/
def T62 (x : Int) : Prop := -2305843009213693952 ≤ x ∧ x ≤ 2305843009213693952
structure ActV.Ok (a : ActV) : Prop where
  event : I64 a.event
  opts : I64 a.opts
  input : I64 a.input
  at_ : T62 a.at_
  attempt : T62 a.attempt
  phase : I64 a.phase
  since : T62 a.since
  beat : T62 a.beat
  detail : I64 a.detail
  again : T62 a.again

/-- layer 17: waiting -/
def limitOf (o : OptV) : Int := if o.most = 0 then 1048576 else o.most
def waitNext (o : OptV) (v : Int) : Int := min (v * o.num / o.den) (limitOf o)
def waitGo (o : OptV) : Nat → Int → Int
  | 0, v => v
  | n + 1, v => if waitNext o v = v then v else waitGo o n (waitNext o v)
def waitOf (o : OptV) (attempt : Int) : Int := waitGo o (attempt - 1).toNat (min o.first (limitOf o))
theorem limit_facts {o : OptV} (h : o.May) : 0 ≤ limitOf o ∧ limitOf o ≤ 1048576 := by
  have := h.most
  unfold limitOf
  split <;> omega
theorem waitNext_facts {o : OptV} (h : o.May) {v : Int} (hv : 0 ≤ v) : 0 ≤ waitNext o v ∧ waitNext o v ≤ 1048576 := by
  obtain ⟨h1, h2⟩ := limit_facts h
  have h3 : 0 ≤ v * o.num / o.den := Int.ediv_nonneg (Int.mul_nonneg hv (by have := h.num; have := h.den; omega)) (by have := h.den; omega)
  unfold waitNext
  omega
theorem waitGo_facts {o : OptV} (h : o.May) : ∀ (n : Nat) (v : Int), 0 ≤ v → v ≤ 1048576 → 0 ≤ waitGo o n v ∧ waitGo o n v ≤ 1048576
  | 0, v, h1, h2 => ⟨h1, h2⟩
  | n + 1, v, h1, h2 => by
    unfold waitGo
    split
    · exact ⟨h1, h2⟩
    · exact waitGo_facts h n _ (waitNext_facts h h1).1 (waitNext_facts h h1).2
theorem waitOf_facts {o : OptV} (h : o.May) (n : Int) : 0 ≤ waitOf o n ∧ waitOf o n ≤ 1048576 :=
  waitGo_facts h _ _ (by have := h.first; have := limit_facts h; omega) (by have := h.first; have := limit_facts h; omega)
def over17 (o : OptV) (attempt code frm now : Int) : Bool := (decide (o.never ≠ 0) && decide (code = o.never)) || (decide (o.tries ≠ 0) && decide (o.tries ≤ attempt)) || (decide (o.total ≠ 0) && decide (frm + o.total ≤ now + waitOf o attempt))
def againOf (o : OptV) (attempt code frm now : Int) : Int × Bool := if over17 o attempt code frm now then (0, false) else (now + waitOf o attempt, true)

/-- layer 18 -/
def newOf (event opts input now : Int) : ActV := ⟨event, opts, input, now, 1, 1, now, 0, 0, 0⟩
def dueLt (x d : DueV) : Bool := decide (x.at_ < d.at_) || (decide (x.at_ = d.at_) && decide (x.kind < d.kind))
def putDue (l : List DueV) (d : DueV) : List DueV := l.takeWhile (dueLt · d) ++ d :: l.dropWhile (dueLt · d)
def due1 (wait frm kind : Int) : List DueV := if 0 < wait then [⟨frm + wait, kind⟩] else []
def dueList (o : OptV) (a : ActV) : List DueV :=
  due1 o.total a.at_ 4 ++ ((if a.phase = 1 then due1 o.start a.since 1 else []) ++ ((if a.phase = 2 then due1 o.close a.since 2 ++ due1 o.beat a.beat 3 else []) ++ (if a.phase = 3 then [⟨a.again, 0⟩] else [])))
def duesOf (o : OptV) (a : ActV) : List DueV := (dueList o a).foldl putDue []
def holdOf (a : ActV) (now : Int) : ActV × Int := if a.phase = 1 then ({ a with phase := 2, since := now, beat := now }, 0) else (noAct, 48)
def heldBy (a : ActV) (attempt : Int) : Bool := decide (a.phase = 2) && decide (a.attempt = attempt)
def beatOf (a : ActV) (attempt detail now : Int) : ActV × Int := if heldBy a attempt then ({ a with beat := now, detail := detail }, 0) else (noAct, 47)
def endOf (a : ActV) (kind b : Int) : EvV := ⟨kind, a.event, b, a.attempt⟩
def doneOf (a : ActV) (attempt value : Int) : EvV × Int := if heldBy a attempt then (endOf a 22 value, 0) else (noEv, 47)
def failsOf (o : OptV) (a : ActV) (code now : Int) (over : EvV) : ActV × EvV :=
  if (againOf o a.attempt code a.at_ now).2 then ({ a with phase := 3, since := now, again := (againOf o a.attempt code a.at_ now).1 }, noEv) else (a, over)
def brokenOf (o : OptV) (a : ActV) (attempt code now : Int) : ActV × EvV × Int :=
  if heldBy a attempt then ((failsOf o a code now (endOf a 23 code)).1, (failsOf o a code now (endOf a 23 code)).2, 0) else (noAct, noEv, 47)
def isDue (o : OptV) (a : ActV) (kind now : Int) : Bool := (duesOf o a).any fun d => decide (d.kind = kind) && decide (d.at_ ≤ now)
def lateOf (o : OptV) (a : ActV) (kind now : Int) : ActV × EvV × Int :=
  if isDue o a kind now then
    if kind = 2 ∨ kind = 3 then ((failsOf o a 0 now (endOf a 24 kind)).1, (failsOf o a 0 now (endOf a 24 kind)).2, 0)
    else if kind = 1 ∨ kind = 4 then (a, endOf a 24 kind, 0)
    else ({ a with phase := 1, since := now, attempt := a.attempt + 1, beat := 0, again := 0 }, noEv, 0)
  else (noAct, noEv, 48)
theorem putDue_mem {l : List DueV} {d x : DueV} : x ∈ putDue l d ↔ x = d ∨ x ∈ l := by
  unfold putDue
  rw [List.mem_append, List.mem_cons]
  conv => rhs; rw [← List.takeWhile_append_dropWhile (p := (dueLt · d)) (l := l), List.mem_append]
  constructor
  · rintro (h | h | h)
    · exact .inr (.inl h)
    · exact .inl h
    · exact .inr (.inr h)
  · rintro (h | h | h)
    · exact .inr (.inl h)
    · exact .inl h
    · exact .inr (.inr h)
theorem fold_mem {x : DueV} : ∀ (l acc : List DueV), x ∈ l.foldl putDue acc ↔ x ∈ acc ∨ x ∈ l
  | [], acc => by simp
  | d :: l, acc => by
    rw [List.foldl_cons, fold_mem l, putDue_mem, List.mem_cons]
    constructor
    · rintro ((h | h) | h)
      · exact .inr (.inl h)
      · exact .inl h
      · exact .inr (.inr h)
    · rintro (h | h | h)
      · exact .inl (.inr h)
      · exact .inl (.inl h)
      · exact .inr h
theorem duesOf_mem {o : OptV} {a : ActV} {x : DueV} : x ∈ duesOf o a ↔ x ∈ dueList o a := by unfold duesOf; rw [fold_mem]; simp
theorem due1_kind {w f k : Int} {x : DueV} (h : x ∈ due1 w f k) : x.kind = k := by
  unfold due1 at h
  split at h
  · rw [List.mem_singleton.1 h]
  · cases h
theorem duesOf_kind {o : OptV} {a : ActV} {x : DueV} (h : x ∈ duesOf o a) : 0 ≤ x.kind ∧ x.kind ≤ 4 := by
  rw [duesOf_mem] at h
  simp only [dueList, List.mem_append] at h
  rcases h with h | h | h | h
  · rw [due1_kind h]; omega
  · split at h
    · rw [due1_kind h]; omega
    · cases h
  · split at h
    · rcases List.mem_append.1 h with h | h <;> (rw [due1_kind h]; omega)
    · cases h
  · split at h
    · rw [List.mem_singleton.1 h]; show (0 : Int) ≤ 0 ∧ (0 : Int) ≤ 4; omega
    · cases h
theorem isDue_kind {o : OptV} {a : ActV} {kind now : Int} (h : isDue o a kind now = true) : 0 ≤ kind ∧ kind ≤ 4 := by
  unfold isDue at h
  rw [List.any_eq_true] at h
  obtain ⟨x, hx, h⟩ := h
  simp at h
  rw [← h.1]
  exact duesOf_kind hx
/-- the document's way to tell the same -/
theorem lateOf_doc (o : OptV) (a : ActV) (kind now : Int) : lateOf o a kind now =
    if isDue o a kind now then
      if kind = 0 then ({ a with phase := 1, since := now, attempt := a.attempt + 1, beat := 0, again := 0 }, noEv, 0)
      else if kind = 2 ∨ kind = 3 then ((failsOf o a 0 now (endOf a 24 kind)).1, (failsOf o a 0 now (endOf a 24 kind)).2, 0)
      else (a, endOf a 24 kind, 0)
    else (noAct, noEv, 48) := by
  unfold lateOf
  by_cases hd : isDue o a kind now = true
  · obtain ⟨h1, h2⟩ := isDue_kind hd
    rw [if_pos hd, if_pos hd]
    by_cases k2 : kind = 2 ∨ kind = 3
    · rw [if_pos k2, if_neg (by omega), if_pos k2]
    · rw [if_neg k2, if_neg k2]
      by_cases k1 : kind = 1 ∨ kind = 4
      · rw [if_pos k1, if_neg (by omega)]
      · rw [if_neg k1, if_pos (by omega)]
  · rw [if_neg hd, if_neg hd]

/-- dues in order -/
theorem dueLt_trans {a b c : DueV} (h : dueLt a b = true) (k : dueLt b c = true) : dueLt a c = true := by
  simp [dueLt] at *
  omega
theorem dueLt_total {a b : DueV} (h : dueLt a b = false) (k : a.kind ≠ b.kind) : dueLt b a = true := by
  simp [dueLt] at *
  omega
theorem dueLt_asymm {a b : DueV} (h : dueLt a b = true) : dueLt b a = false := by
  simp [dueLt] at *
  omega
theorem putDue_at {A B : List DueV} {x : DueV} (hA : ∀ a ∈ A, dueLt a x = true) (hB : ∀ b, B.head? = some b → dueLt b x = false) : putDue (A ++ B) x = A ++ x :: B := by
  unfold putDue
  have h1 : (A ++ B).takeWhile (dueLt · x) = A := by
    rw [List.takeWhile_append_of_pos (by simpa using hA)]
    cases B with
    | nil => simp
    | cons b B => rw [List.takeWhile_cons, hB b rfl]; simp
  have h2 : (A ++ B).dropWhile (dueLt · x) = B := by
    rw [List.dropWhile_append_of_pos (by simpa using hA)]
    cases B with
    | nil => simp
    | cons b B => rw [List.dropWhile_cons, hB b rfl]; simp
  rw [h1, h2]
theorem putDue_len (l : List DueV) (x : DueV) : (putDue l x).length = l.length + 1 := by
  have := congrArg List.length (List.takeWhile_append_dropWhile (p := (dueLt · x)) (l := l))
  simp only [List.length_append] at this
  simp [putDue]
  omega
theorem takeWhile_all {α : Type} {p : α → Bool} : ∀ {l : List α} {a : α}, a ∈ l.takeWhile p → p a = true
  | [], a, h => by simp at h
  | b :: l, a, h => by
    rw [List.takeWhile_cons] at h
    split at h
    · rcases List.mem_cons.1 h with rfl | h
      · assumption
      · exact takeWhile_all h
    · cases h
/-- sorted by insertion: nothing of a kind twice -/
structure Sorted (l : List DueV) : Prop where
  lt : l.Pairwise fun a b => dueLt a b = true
theorem Sorted.put {l : List DueV} {x : DueV} (h : Sorted l) (hk : ∀ a ∈ l, a.kind ≠ x.kind) : Sorted (putDue l x) := by
  have hl : l.takeWhile (dueLt · x) ++ l.dropWhile (dueLt · x) = l := List.takeWhile_append_dropWhile
  have hp := h.lt
  rw [← hl, List.pairwise_append] at hp
  have hA : ∀ a ∈ l.takeWhile (dueLt · x), dueLt a x = true := fun a ha => by
    have := takeWhile_all ha
    simpa using this
  have hB : ∀ b ∈ l.dropWhile (dueLt · x), dueLt x b = true := by
    cases hd : l.dropWhile (dueLt · x) with
    | nil => simp
    | cons c B =>
      have hc : dueLt c x = false := by
        have := List.head_dropWhile_not (dueLt · x) (l := l) (by rw [hd]; simp)
        simpa [hd] using this
      have hcl : c ∈ l := (List.dropWhile_sublist _).subset (by rw [hd]; simp)
      have h1 := dueLt_total hc (hk c hcl)
      intro b hb
      rcases List.mem_cons.1 hb with rfl | hb
      · exact h1
      · rw [hd] at hp
        exact dueLt_trans h1 ((List.pairwise_cons.1 hp.2.1).1 b hb)
  refine ⟨?_⟩
  unfold putDue
  rw [List.pairwise_append, List.pairwise_cons]
  refine ⟨hp.1, ⟨hB, hp.2.1⟩, fun a ha b hb => ?_⟩
  rcases List.mem_cons.1 hb with rfl | hb
  · exact hA a ha
  · exact hp.2.2 a ha b hb
end Go.Proofs.Ytjmdbgbkmjlmdaa
