/- What a batch's bytes say (layer 5), as plain functions: the program's way and the document's way agree. No program in sight. -/
import Derived.Test.YteplpgknnlehnaaManDec2
import Derived.Test.YteplpgknnlehnaaWal2
namespace Go.Proofs.Yteplpgknnlehnaa
set_option linter.unusedSimpArgs false
set_option linter.unusedVariables false
open Go.RowKit

theorem takeGo_big : ∀ (l : List UInt8) (i n : Nat), 0 < i → (takeGo l i n).2.2 = 0 → 128 ^ i ≤ (takeGo l i n).1
  | [], i, n, _, h => by simp [takeGo] at h
  | b :: l, i, n, hi, h => by
    unfold takeGo at h ⊢
    split at h
    · cases h
    · rename_i h1
      rw [if_neg h1]
      split at h
      · rename_i h2
        rw [if_pos h2]
        have : 1 * 128 ^ i ≤ b.toNat * 128 ^ i := Nat.mul_le_mul_right _ (by omega)
        dsimp only
        omega
      · rename_i h2
        rw [if_neg h2]
        have h3 := takeGo_big l (i + 1) _ (by omega) h
        rw [Nat.pow_succ] at h3
        omega
/-- a number below two is one byte -/
theorem takeUint_one {s : List UInt8} (h0 : (takeUint s).2.2 = 0) (h1 : (takeUint s).1 ≤ 1) : ∃ b r, s = b :: r ∧ b.toNat ≤ 1 ∧ takeUint s = (b.toNat, 1, 0) := by
  unfold takeUint at *
  cases s with
  | nil => simp [takeGo] at h0
  | cons b r =>
    refine ⟨b, r, rfl, ?_⟩
    unfold takeGo at h0 h1 ⊢
    rw [if_neg (by omega)] at h0 h1 ⊢
    by_cases hb : b.toNat < 128
    · rw [if_pos hb] at h0 h1 ⊢
      simp at h1 ⊢
      exact h1
    · rw [if_neg hb] at h0 h1
      have := takeGo_big r (0 + 1) _ (by omega) h0
      simp only [Nat.zero_add, Nat.pow_one] at this h1
      omega
theorem takeUint_byte (b : UInt8) (r : List UInt8) (hb : b.toNat ≤ 1) : takeUint (b :: r) = (b.toNat, 1, 0) := by
  unfold takeUint takeGo
  rw [if_neg (by omega), if_pos (by omega)]
  simp

/-- a put, the program's way -/
def pPut : List UInt8 → Option (Put × List UInt8)
  | [] => none
  | b :: r => if 1 < b.toNat then none else if (takeText 96 r).2.2 ≠ 0 then none else if b.toNat = 1 then some (⟨(takeText 96 r).1, [], true⟩, r.drop (takeText 96 r).2.1)
    else if (takeText 16384 (r.drop (takeText 96 r).2.1)).2.2 ≠ 0 then none else some (⟨(takeText 96 r).1, (takeText 16384 (r.drop (takeText 96 r).2.1)).1, false⟩, (r.drop (takeText 96 r).2.1).drop (takeText 16384 (r.drop (takeText 96 r).2.1)).2.1)
theorem pPut_cons (b : UInt8) (r : List UInt8) : pPut (b :: r) = if 1 < b.toNat then none else if (takeText 96 r).2.2 ≠ 0 then none else if b.toNat = 1 then some (⟨(takeText 96 r).1, [], true⟩, r.drop (takeText 96 r).2.1)
    else if (takeText 16384 (r.drop (takeText 96 r).2.1)).2.2 ≠ 0 then none else some (⟨(takeText 96 r).1, (takeText 16384 (r.drop (takeText 96 r).2.1)).1, false⟩, (r.drop (takeText 96 r).2.1).drop (takeText 16384 (r.drop (takeText 96 r).2.1)).2.1) := rfl
/-- a put, the document's way -/
def rPut (st : Rd) : Put × Rd :=
  if (readUint 1 st).1 = 0 then (⟨(readText 96 (readUint 1 st).2).1, (readText 16384 (readText 96 (readUint 1 st).2).2).1, false⟩, (readText 16384 (readText 96 (readUint 1 st).2).2).2)
  else (⟨(readText 96 (readUint 1 st).2).1, [], true⟩, (readText 96 (readUint 1 st).2).2)
theorem readText_mk {mx : Nat} {l : List UInt8} (h : (takeText mx l).2.2 = 0) : readText mx (l, false) = ((takeText mx l).1, (l.drop (takeText mx l).2.1, false)) := by
  unfold readText
  rw [if_neg (by simp [h])]
theorem readText_ok {mx : Nat} {l : List UInt8} (h : (readText mx (l, false)).2.2 = false) : (takeText mx l).2.2 = 0 ∧ readText mx (l, false) = ((takeText mx l).1, (l.drop (takeText mx l).2.1, false)) := by
  have h1 : (takeText mx l).2.2 = 0 := by
    unfold readText at h
    split at h
    · cases h
    · rename_i h2
      simpa using h2
  exact ⟨h1, readText_mk h1⟩
theorem rPut_bad (st : Rd) (h : (rPut st).2.2 = false) : st.2 = false := by
  unfold rPut at h
  split at h
  · exact readUint_bad _ (readText_good (readText_good h))
  · exact readUint_bad _ (readText_good h)
theorem pPut_of_ref {l : List UInt8} (h : (rPut (l, false)).2.2 = false) : pPut l = some ((rPut (l, false)).1, (rPut (l, false)).2.1) := by
  have hu : (readUint 1 (l, false)).2.2 = false := by
    unfold rPut at h
    split at h
    · exact readText_good (readText_good h)
    · exact readText_good h
  obtain ⟨-, u2, u3, u4⟩ := readUint_good hu
  obtain ⟨b, r, rfl, hb, ht⟩ := takeUint_one u2 u3
  dsimp only at u4 u2 u3 ht
  rw [ht] at u4 u3
  simp only [List.drop_succ_cons, List.drop_zero] at u4
  unfold rPut at h ⊢
  rw [u4] at h ⊢
  dsimp only at h ⊢
  rw [pPut_cons, if_neg (by omega)]
  by_cases h0 : b.toNat = 0
  · rw [if_pos h0] at h ⊢
    have h2 := readText_good h
    obtain ⟨k1, k2⟩ := readText_ok h2
    rw [k2] at h ⊢
    dsimp only at h ⊢
    obtain ⟨k3, k4⟩ := readText_ok h
    rw [k4, if_neg (by simp [k1]), if_neg (by omega), if_neg (by simp [k3])]
  · rw [if_neg h0] at h ⊢
    obtain ⟨k1, k2⟩ := readText_ok h
    rw [k2, if_neg (by simp [k1]), if_pos (by omega)]
theorem rPut_of {l s : List UInt8} {p : Put} (h : pPut l = some (p, s)) : rPut (l, false) = (p, (s, false)) := by
  cases l with
  | nil => cases h
  | cons b r =>
    rw [pPut_cons] at h
    split at h
    · cases h
    · rename_i h1
      split at h
      · cases h
      · rename_i h2
        have h2' : (takeText 96 r).2.2 = 0 := by omega
        have hu : readUint 1 (b :: r, false) = (b.toNat, (r, false)) := by
          have ht := takeUint_byte b r (by omega)
          rw [readUint_mk rfl (by rw [ht]) (by rw [ht]; dsimp only; omega), ht]
          simp
        unfold rPut
        rw [hu]
        dsimp only
        rw [readText_mk h2']
        dsimp only
        split at h
        · rename_i h3
          injection h with h
          injection h with ha hb
          subst ha hb
          rw [if_neg (by omega)]
        · rename_i h3
          split at h
          · cases h
          · rename_i h4
            have h4' : (takeText 16384 (r.drop (takeText 96 r).2.1)).2.2 = 0 := by omega
            injection h with h
            injection h with ha hb
            subst ha hb
            rw [if_pos (by omega), readText_mk h4']

def oiter {α : Type} (f : List UInt8 → Option (α × List UInt8)) : Nat → List UInt8 → Option (List α × List UInt8)
  | 0, s => some ([], s)
  | k + 1, s => match oiter f k s with
    | none => none
    | some (xs, s') => match f s' with
      | none => none
      | some (x, s'') => some (xs ++ [x], s'')
theorem oiter_len {α : Type} {f : List UInt8 → Option (α × List UInt8)} : ∀ {k : Nat} {s s' : List UInt8} {xs : List α}, oiter f k s = some (xs, s') → xs.length = k
  | 0, s, s', xs, h => by cases h; rfl
  | k + 1, s, s', xs, h => by
    unfold oiter at h
    split at h
    · cases h
    · rename_i ys s1 h1
      split at h
      · cases h
      · cases h
        simp [oiter_len h1]
theorem oiter_stop {α : Type} {f : List UInt8 → Option (α × List UInt8)} {k : Nat} {s : List UInt8} (h : oiter f k s = none) : ∀ m, k ≤ m → oiter f m s = none
  | m, hm => by
    induction m with
    | zero => obtain rfl : k = 0 := by omega
              exact h
    | succ m ih =>
      rcases Nat.lt_or_ge m k with h1 | h1
      · obtain rfl : k = m + 1 := by omega
        exact h
      · unfold oiter
        rw [ih h1]
theorem oiter_next {α : Type} {f : List UInt8 → Option (α × List UInt8)} {k : Nat} {s s1 s2 : List UInt8} {xs : List α} {x : α} (h : oiter f k s = some (xs, s1)) (hx : f s1 = some (x, s2)) : oiter f (k + 1) s = some (xs ++ [x], s2) := by
  unfold oiter
  rw [h]
  dsimp only
  rw [hx]
theorem oiter_fail {α : Type} {f : List UInt8 → Option (α × List UInt8)} {k m : Nat} {s s1 : List UInt8} {xs : List α} (h : oiter f k s = some (xs, s1)) (hx : f s1 = none) (hm : k < m) : oiter f m s = none := by
  refine oiter_stop (k := k + 1) ?_ m (by omega)
  unfold oiter
  rw [h]
  dsimp only
  rw [hx]
theorem oiter_of_ref : ∀ (k : Nat) (l : List UInt8), (iterS rPut k (l, false)).2.2 = false → oiter pPut k l = some ((iterS rPut k (l, false)).1, (iterS rPut k (l, false)).2.1)
  | 0, l, _ => rfl
  | k + 1, l, h => by
    unfold iterS at h ⊢
    split at h
    · rename_i h1; rw [h] at h1; cases h1
    · rename_i h1
      have h1' := Bool.not_eq_true _ |>.mp h1
      rw [if_neg h1]
      have ih := oiter_of_ref k l h1'
      have h2 : (iterS rPut k (l, false)).2 = ((iterS rPut k (l, false)).2.1, false) := Prod.ext rfl h1'
      rw [h2] at h ⊢
      exact oiter_next ih (pPut_of_ref h)
theorem ref_of_oiter : ∀ (k : Nat) (l s : List UInt8) (xs : List Put), oiter pPut k l = some (xs, s) → iterS rPut k (l, false) = (xs, (s, false))
  | 0, l, s, xs, h => by cases h; rfl
  | k + 1, l, s, xs, h => by
    unfold oiter at h
    split at h
    · cases h
    · rename_i ys s1 h1
      split at h
      · cases h
      · rename_i x s2 h2
        cases h
        unfold iterS
        rw [ref_of_oiter k l s1 ys h1]
        dsimp only
        rw [rPut_of h2]
        rfl

/-- what a batch's bytes say -/
def pBatch (l : List UInt8) : Option (Batch × List UInt8) :=
  if (takeUint l).2.2 ≠ 0 then none else if (takeUint (l.drop (takeUint l).2.1)).2.2 ≠ 0 ∨ 256 < (takeUint (l.drop (takeUint l).2.1)).1 then none else
  match oiter pPut (takeUint (l.drop (takeUint l).2.1)).1 ((l.drop (takeUint l).2.1).drop (takeUint (l.drop (takeUint l).2.1)).2.1) with
  | none => none
  | some (xs, s) => some (⟨(takeUint l).1, xs⟩, s)
def rBatch (st : Rd) : Batch × Rd :=
  (⟨(readUint 1125899906842624 st).1, (iterS rPut (readUint 256 (readUint 1125899906842624 st).2).1 (readUint 256 (readUint 1125899906842624 st).2).2).1⟩, (iterS rPut (readUint 256 (readUint 1125899906842624 st).2).1 (readUint 256 (readUint 1125899906842624 st).2).2).2)
def noBatch : Batch := ⟨0, []⟩
def batchEnd (r : Batch × Rd) : Batch × Int := if (r.2.2 || !r.2.1.isEmpty || !decide r.1.Right) = true then (noBatch, 3) else (r.1, 0)
def decodeBatch (l : List UInt8) : Batch × Int := batchEnd (rBatch (l, false))
theorem pBatch_of_ref {l : List UInt8} (h : (rBatch (l, false)).2.2 = false) : pBatch l = some ((rBatch (l, false)).1, (rBatch (l, false)).2.1) := by
  have h1 : (readUint 256 (readUint 1125899906842624 (l, false)).2).2.2 = false := iterS_bad (f := rPut) rPut_bad _ _ h
  have h2 : (readUint 1125899906842624 (l, false)).2.2 = false := readUint_bad _ h1
  obtain ⟨-, a2, a3, a4⟩ := readUint_good h2
  unfold rBatch at h ⊢
  rw [a4] at h h1 ⊢
  dsimp only at h h1 a2 ⊢
  obtain ⟨-, b2, b3, b4⟩ := readUint_good h1
  dsimp only at b2 b3 b4
  rw [b4] at h ⊢
  dsimp only at h ⊢
  unfold pBatch
  rw [if_neg (by omega), if_neg (by omega), oiter_of_ref _ _ h]
theorem ref_of_pBatch {l s : List UInt8} {b : Batch} (h : pBatch l = some (b, s)) (hs : b.seq ≤ 1125899906842624) : rBatch (l, false) = (b, (s, false)) := by
  unfold pBatch at h
  split at h
  · cases h
  · rename_i h1
    split at h
    · cases h
    · rename_i h2
      split at h
      · cases h
      · rename_i xs s1 h3
        cases h
        dsimp only at hs
        unfold rBatch
        rw [readUint_mk (mx := 1125899906842624) rfl (by dsimp only; omega) hs]
        dsimp only
        rw [readUint_mk (mx := 256) rfl (by dsimp only; omega) (by dsimp only; omega)]
        dsimp only
        rw [ref_of_oiter _ _ _ _ h3]
theorem decodeBatch_none {l : List UInt8} (h : pBatch l = none) : decodeBatch l = (noBatch, 3) := by
  unfold decodeBatch batchEnd
  cases hb : (rBatch (l, false)).2.2 with
  | true => simp
  | false => rw [pBatch_of_ref hb] at h; cases h
theorem Batch.Right.seq {b : Batch} (h : b.Right) : b.seq ≤ 1125899906842624 := by
  have := h.2.2.2.1
  unfold maxSeq at this
  exact this
theorem decodeBatch_some {l s : List UInt8} {b : Batch} (h : pBatch l = some (b, s)) : decodeBatch l = if (!s.isEmpty || !decide b.Right) = true then (noBatch, 3) else (b, 0) := by
  unfold decodeBatch batchEnd
  by_cases hs : b.seq ≤ 1125899906842624
  · rw [ref_of_pBatch h hs]
    simp
  · have hr : ¬ b.Right := fun k => hs k.seq
    rw [if_pos (c := (!s.isEmpty || !decide b.Right) = true) (by simp [hr])]
    cases hb : (rBatch (l, false)).2.2 with
    | true => simp
    | false =>
      have := (pBatch_of_ref hb).symm.trans h
      injection this with this
      injection this with h1 h2
      rw [h1]
      simp [hr]
theorem pPut_small {s r : List UInt8} {p : Put} (h : pPut s = some (p, r)) : p.key.length ≤ 96 ∧ p.val.length ≤ 16384 := by
  cases s with
  | nil => cases h
  | cons b s =>
    rw [pPut_cons] at h
    split at h
    · cases h
    · split at h
      · cases h
      · split at h
        · cases h
          exact ⟨takeText_most, by simp⟩
        · split at h
          · cases h
          · cases h
            exact ⟨takeText_most, takeText_most⟩
theorem oiter_all {α : Type} {f : List UInt8 → Option (α × List UInt8)} {p : α → Prop} (hf : ∀ s x r, f s = some (x, r) → p x) : ∀ {k : Nat} {s s' : List UInt8} {xs : List α}, oiter f k s = some (xs, s') → ∀ x ∈ xs, p x
  | 0, s, s', xs, h => by cases h; simp
  | k + 1, s, s', xs, h => by
    unfold oiter at h
    split at h
    · cases h
    · rename_i ys s1 h1
      split at h
      · cases h
      · rename_i y s2 h2
        cases h
        intro x hx
        rcases List.mem_append.1 hx with hx | hx
        · exact oiter_all hf h1 x hx
        · simp at hx
          subst hx
          exact hf _ _ _ h2
end Go.Proofs.Yteplpgknnlehnaa
