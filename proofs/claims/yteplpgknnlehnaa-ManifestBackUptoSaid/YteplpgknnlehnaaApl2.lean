/- What an edit makes of the tables that live (layer 10): two ways, and that they are one where each level is in order. No program in sight. -/
import Derived.Test.YteplpgknnlehnaaApl
namespace Go.Proofs.Yteplpgknnlehnaa
set_option linter.unusedSimpArgs false
set_option linter.unusedVariables false
open Go.RowKit

def Live.set (v : Live) (k : Nat) (l : List Table) : Live := { v with tab := fun j => if j = k then l else v.tab j }
theorem Live.set_same (v : Live) (k : Nat) (l : List Table) : (v.set k l).tab k = l := by simp [Live.set]
theorem Live.set_other (v : Live) {k j : Nat} (l : List Table) (h : j ≠ k) : (v.set k l).tab j = v.tab j := by simp [Live.set, h]
theorem Live.set_set (v : Live) (k : Nat) (l l' : List Table) : (v.set k l).set k l' = v.set k l' := by
  simp only [Live.set, Live.mk.injEq, true_and]
  funext j
  split <;> rfl
/-- does u come ahead of t in t's level? -/
def ahead (t u : Table) : Bool := if t.level = 0 then decide (u.num < t.num) else ltB u.least t.least
def keyLt (k : Nat) (u t : Table) : Bool := if k = 0 then decide (u.num < t.num) else ltB u.least t.least
theorem ahead_key {t u : Table} {k : Nat} (h : t.level = k) : ahead t u = keyLt k u t := by
  unfold ahead keyLt
  by_cases hk : k = 0
  · rw [if_pos (by omega), if_pos hk]
  · rw [if_neg (by omega), if_neg hk]
def lvl (t : Table) : Nat := t.level.toNat
/-- the document's place, and the program's -/
def putRef (l : List Table) (t : Table) : List Table := l.takeWhile (ahead t) ++ t :: l.dropWhile (ahead t)
def putProg (l : List Table) (t : Table) : List Table := l.take (l.countP (ahead t)) ++ t :: l.drop (l.countP (ahead t))

/-- the order of texts: a ≤ b < c -/
theorem ltB_neg_trans : ∀ {a b c : List UInt8}, ltB b a = false → ltB b c = true → ltB a c = true
  | _, _, [], _, k => by simp [ltB, Op.bytesLess] at k
  | [], _, z :: c, _, _ => by simp [ltB, Op.bytesLess]
  | x :: a, [], z :: c, h, _ => by simp [ltB, Op.bytesLess] at h
  | x :: a, y :: b, z :: c, h, k => by
    have ih := @ltB_neg_trans a b c
    simp only [ltB, Op.bytesLess, Bool.or_eq_true, Bool.and_eq_true, decide_eq_true_eq, beq_iff_eq, Bool.or_eq_false_iff, decide_eq_false_iff_not, UInt8.lt_iff_toNat_lt, ← UInt8.toNat_inj] at h k ih ⊢
    obtain ⟨h1, h2⟩ := h
    rcases k with k | ⟨k1, k2⟩
    · left; omega
    · by_cases hxy : y.toNat = x.toNat
      · have h3 : Op.bytesLess b a = false := by
          rw [UInt8.toNat_inj] at hxy
          simpa [hxy] using h2
        exact .inr ⟨by omega, ih h3 k2⟩
      · left; omega
theorem ltB_asymm : ∀ {a b : List UInt8}, ltB a b = true → ltB b a = false
  | _, [], h => by simp [ltB, Op.bytesLess] at h
  | [], _ :: _, _ => by simp [ltB, Op.bytesLess]
  | x :: a, y :: b, h => by
    have ih := @ltB_asymm a b
    simp only [ltB, Op.bytesLess, Bool.or_eq_true, Bool.and_eq_true, decide_eq_true_eq, beq_iff_eq, Bool.or_eq_false_iff, decide_eq_false_iff_not, UInt8.lt_iff_toNat_lt, ← UInt8.toNat_inj] at h ih ⊢
    rcases h with h | ⟨h1, h2⟩
    · refine ⟨by omega, ?_⟩
      have : (y == x) = false := by simp only [beq_eq_false_iff_ne, ne_eq, ← UInt8.toNat_inj]; omega
      simp [this]
    · exact ⟨by omega, by simp [ih h2]⟩
theorem keyLt_neg_trans {k : Nat} {a b c : Table} (h : keyLt k b a = false) (h' : keyLt k b c = true) : keyLt k a c = true := by
  unfold keyLt at *
  by_cases hk : k = 0
  · simp [hk] at *; omega
  · simp only [if_neg hk] at *; exact ltB_neg_trans h h'
theorem keyLt_asymm {k : Nat} {a b : Table} (h : keyLt k a b = true) : keyLt k b a = false := by
  unfold keyLt at *
  by_cases hk : k = 0
  · simp [hk] at *; omega
  · simp only [if_neg hk] at *; exact ltB_asymm h
/-- a level in order -/
def Srt (k : Nat) (l : List Table) : Prop := l.Pairwise fun a b => keyLt k b a = false
theorem srt_put {α : Type} {R : α → α → Prop} {p : α → Bool} (hp : ∀ a b, R a b → p b = true → p a = true) : ∀ {l : List α}, l.Pairwise R → l.takeWhile p = l.take (l.countP p) ∧ l.dropWhile p = l.drop (l.countP p) ∧ ∀ x ∈ l.dropWhile p, p x = false
  | [], _ => by simp
  | a :: l, h => by
    obtain ⟨h1, h2⟩ := List.pairwise_cons.1 h
    obtain ⟨i1, i2, i3⟩ := srt_put hp h2
    cases ha : p a with
    | true => simp [List.takeWhile_cons, List.dropWhile_cons, List.countP_cons, ha, ← i1, ← i2]; simpa using i3
    | false =>
      have hall : ∀ x ∈ l, p x = false := fun x hx => by
        cases hx' : p x with
        | false => rfl
        | true => rw [hp a x (h1 x hx) hx'] at ha; cases ha
      have h0 : l.countP p = 0 := by rw [List.countP_eq_zero]; intro x hx; simp [hall x hx]
      simp [List.takeWhile_cons, List.dropWhile_cons, List.countP_cons, ha, h0]
      exact hall
theorem put_same {k : Nat} {l : List Table} {t : Table} (h : Srt k l) (ht : t.level = k) : putProg l t = putRef l t := by
  have h1 := srt_put (p := ahead t) (fun a b hab hb => by rw [ahead_key ht] at *; exact keyLt_neg_trans hab hb) h
  unfold putProg putRef
  rw [h1.1, h1.2.1]
theorem of_takeWhile {α : Type} {p : α → Bool} {x : α} : ∀ {l : List α}, x ∈ l.takeWhile p → p x = true
  | a :: l, h => by
    rw [List.takeWhile_cons] at h
    split at h
    · rcases List.mem_cons.1 h with rfl | h
      · assumption
      · exact of_takeWhile h
    · cases h
theorem put_srt {k : Nat} {l : List Table} {t : Table} (h : Srt k l) (ht : t.level = k) : Srt k (putRef l t) := by
  obtain ⟨_, _, h3⟩ := srt_put (p := ahead t) (fun a b hab hb => by rw [ahead_key ht] at *; exact keyLt_neg_trans hab hb) h
  have hl : l.takeWhile (ahead t) ++ l.dropWhile (ahead t) = l := List.takeWhile_append_dropWhile
  have h4 := h
  unfold Srt at h4
  rw [← hl, List.pairwise_append] at h4
  unfold Srt putRef
  rw [List.pairwise_append, List.pairwise_cons]
  refine ⟨h4.1, ⟨fun b hb => ?_, h4.2.1⟩, fun a ha b hb => ?_⟩
  · rw [← ahead_key ht]; exact h3 b hb
  · rcases List.mem_cons.1 hb with rfl | hb
    · have := of_takeWhile ha
      rw [ahead_key ht] at this
      exact keyLt_asymm this
    · exact h4.2.2 a ha b hb

/-- may a key lie in t and in one of a level? -/
def clash (t : Table) (l : List Table) : Bool := decide (0 < t.level) && l.any (overB t)
def addAll (put : List Table → Table → List Table) (next : Nat) : List Table → Live → Option Live
  | [], v => some v
  | t :: ts, v => if t.num ∈ numsOf v ∨ next ≤ t.num then none else if clash t (v.tab (lvl t)) = true then none else addAll put next ts (v.set (lvl t) (put (v.tab (lvl t)) t))
def dropsOk (had : List Nat) : List Nat → List Nat → Bool
  | _, [] => true
  | pre, n :: r => decide (n ∈ had) && !decide (n ∈ pre) && dropsOk had (pre ++ [n]) r
def keptOf (v : Live) (e : Edit) : Live := ⟨e.next, e.seq, e.log, fun k => (v.tab k).filter fun t => !decide (t.num ∈ e.drop)⟩
def applyWith (put : List Table → Table → List Table) (v : Live) (e : Edit) : Live × Int :=
  if e.may = false then (noLive, 1) else if e.next < v.next ∨ e.seq < v.seq ∨ e.log < v.log then (noLive, 3) else if dropsOk (numsOf v) [] e.drop = false then (noLive, 3) else
    match addAll put e.next e.add (keptOf v e) with
    | none => (noLive, 3)
    | some o => (o, 0)
def Live.Srt (v : Live) : Prop := ∀ k, Go.Proofs.Yteplpgknnlehnaa.Srt k (v.tab k)
theorem addAll_same {next : Nat} : ∀ (ts : List Table) (v : Live), (∀ t ∈ ts, 0 ≤ t.level) → v.Srt → addAll putProg next ts v = addAll putRef next ts v ∧ ∀ o, addAll putRef next ts v = some o → o.Srt
  | [], v, _, h => ⟨rfl, fun o ho => by cases ho; exact h⟩
  | t :: ts, v, hl, h => by
    have ht : t.level = (lvl t : Int) := by have := hl t (by simp); unfold lvl; omega
    have hs : (v.set (lvl t) (putRef (v.tab (lvl t)) t)).Srt := fun k => by
      by_cases hk : k = lvl t
      · subst hk; rw [Live.set_same]; exact put_srt (h _) ht
      · rw [Live.set_other _ _ hk]; exact h k
    obtain ⟨i1, i2⟩ := addAll_same ts _ (fun t ht => hl t (by simp [ht])) hs
    unfold addAll
    rw [put_same (h _) ht]
    split
    · exact ⟨rfl, fun o ho => by cases ho⟩
    · split
      · exact ⟨rfl, fun o ho => by cases ho⟩
      · exact ⟨i1, i2⟩
theorem noLive_srt : noLive.Srt := fun k => List.Pairwise.nil
theorem keptOf_srt {v : Live} (h : v.Srt) (e : Edit) : (keptOf v e).Srt := fun k => (h k).filter _
theorem may_levels {e : Edit} (h : e.may = true) : ∀ t ∈ e.add, 0 ≤ t.level ∧ t.level < 4 := by
  simp [Edit.may] at h
  intro t ht
  have := h.2.1 t ht
  simp [Table.may] at this
  omega
/-- the two ways are one -/
theorem apply_same {v : Live} (h : v.Srt) (e : Edit) : applyWith putProg v e = applyWith putRef v e ∧ (applyWith putRef v e).1.Srt := by
  unfold applyWith
  by_cases hm : e.may = false
  · rw [if_pos hm, if_pos hm]; exact ⟨rfl, noLive_srt⟩
  · rw [if_neg hm, if_neg hm]
    have hm' : e.may = true := by simpa using hm
    obtain ⟨i1, i2⟩ := addAll_same (next := e.next) e.add _ (fun t ht => (may_levels hm' t ht).1) (keptOf_srt h e)
    rw [i1]
    refine ⟨rfl, ?_⟩
    split
    · exact noLive_srt
    · split
      · exact noLive_srt
      · split
        · exact noLive_srt
        · rename_i o ho
          exact i2 o ho
end Go.Proofs.Yteplpgknnlehnaa
