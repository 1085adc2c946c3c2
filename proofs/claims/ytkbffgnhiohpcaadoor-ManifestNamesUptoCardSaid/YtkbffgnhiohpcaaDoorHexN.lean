/- Names of numbers in sixteen digits (layers 5 and 10): the plain law. No program in sight. -/
import Derived.Test.YtkbffgnhiohpcaaDoorBase
namespace Go.Proofs.YtkbffgnhiohpcaaDoor
set_option linter.unusedSimpArgs false
set_option linter.unusedVariables false

/-- a digit of sixteen -/
def hexDig (d : Nat) : UInt8 := if d < 10 then UInt8.ofNat (48 + d) else UInt8.ofNat (87 + d)
/-- the last k digits of a number -/
def hexDigs : Nat → Nat → List UInt8
  | 0, _ => []
  | k + 1, n => hexDigs k (n / 16) ++ [hexDig (n % 16)]
/-- what a byte counts, small letters alone -/
def lowVal (c : UInt8) : Option Nat := if 48 ≤ c.toNat ∧ c.toNat ≤ 57 then some (c.toNat - 48) else if 97 ≤ c.toNat ∧ c.toNat ≤ 102 then some (c.toNat - 87) else none
/-- what a byte counts, great letters too -/
def anyVal (c : UInt8) : Option Nat := if 48 ≤ c.toNat ∧ c.toNat ≤ 57 then some (c.toNat - 48) else if 97 ≤ (c ||| 32).toNat ∧ (c ||| 32).toNat ≤ 102 then some ((c ||| 32).toNat - 87) else none
def valFrom (f : UInt8 → Option Nat) : Nat → List UInt8 → Option Nat
  | n, [] => some n
  | n, c :: l => match f c with
    | some d => valFrom f (16 * n + d) l
    | none => none
/-- a text as a number below 2^64 -/
def parse16 (s : List UInt8) : Option Nat := if s = [] then none else match valFrom anyVal 0 s with
  | some n => if n < M64 then some n else none
  | none => none
/-- the program's answer, and the document's -/
def numbP (ahead name : List UInt8) : Nat × Bool :=
  if name.take ahead.length = ahead then
    match parse16 (name.drop ahead.length) with
    | some n => if ahead ++ hexDigs 16 n = name then (n, true) else (0, false)
    | none => (0, false)
  else (0, false)
def numbR (ahead name : List UInt8) : Nat × Bool :=
  if name.length = ahead.length + 16 ∧ name.take ahead.length = ahead then
    match valFrom lowVal 0 (name.drop ahead.length) with
    | some n => (n, true)
    | none => (0, false)
  else (0, false)

theorem hexDigs_length (k n : Nat) : (hexDigs k n).length = k := by
  induction k generalizing n with
  | zero => rfl
  | succ k ih => simp [hexDigs, ih]
theorem hexDig_toNat {d : Nat} (h : d < 16) : (hexDig d).toNat = if d < 10 then 48 + d else 87 + d := by
  unfold hexDig
  split <;> simp only [UInt8.toNat_ofNat'] <;> omega
theorem hexDig_low {d : Nat} (h : d < 16) : lowVal (hexDig d) = some d := by
  unfold lowVal
  rw [hexDig_toNat h]
  by_cases h1 : d < 10
  · rw [if_pos h1, if_pos (by omega)]; congr 1; omega
  · rw [if_neg h1, if_neg (by omega), if_pos (by omega)]; congr 1; omega
theorem low_lt {c : UInt8} {d : Nat} (h : lowVal c = some d) : d < 16 := by
  unfold lowVal at h
  split at h
  · cases h; omega
  · split at h
    · cases h; omega
    · cases h
theorem low_dig {c : UInt8} {d : Nat} (h : lowVal c = some d) : hexDig d = c := by
  have hd := low_lt h
  apply UInt8.toNat_inj.1
  rw [hexDig_toNat hd]
  unfold lowVal at h
  split at h
  · cases h; rw [if_pos (by omega)]; omega
  · split at h
    · cases h; rw [if_neg (by omega)]; omega
    · cases h
theorem low_or {c : UInt8} (h1 : 97 ≤ c.toNat) (h2 : c.toNat ≤ 102) : c ||| 32 = c := by
  have key : ∀ n, n < 103 → 97 ≤ n → (UInt8.ofNat n ||| 32) = UInt8.ofNat n := by decide +kernel
  have h := key c.toNat (by omega) h1
  rwa [UInt8.ofNat_toNat] at h
theorem low_any {c : UInt8} {d : Nat} (h : lowVal c = some d) : anyVal c = some d := by
  unfold lowVal at h
  unfold anyVal
  split at h
  · rename_i h1; rw [if_pos h1]; exact h
  · rename_i h1
    rw [if_neg h1]
    split at h
    · rename_i h2
      rw [low_or h2.1 h2.2, if_pos h2]; exact h
    · cases h
theorem any_lt {c : UInt8} {d : Nat} (h : anyVal c = some d) : d < 16 := by
  unfold anyVal at h
  split at h
  · cases h; omega
  · split at h
    · cases h; omega
    · cases h
theorem valFrom_append (f : UInt8 → Option Nat) (l m : List UInt8) : ∀ n, valFrom f n (l ++ m) = match valFrom f n l with | some k => valFrom f k m | none => none := by
  induction l with
  | nil => intro n; rfl
  | cons c l ih =>
    intro n
    simp only [List.cons_append, valFrom]
    cases f c with
    | none => rfl
    | some d => exact ih _
theorem valFrom_ge (f : UInt8 → Option Nat) : ∀ (l : List UInt8) (n m : Nat), valFrom f n l = some m → n ≤ m
  | [], n, m, h => by cases h; exact Nat.le_refl _
  | c :: l, n, m, h => by
    simp only [valFrom] at h
    cases hc : f c with
    | none => rw [hc] at h; cases h
    | some d =>
      rw [hc] at h
      have := valFrom_ge f l _ m h
      omega
theorem val_digs (k : Nat) : ∀ n, n < 16 ^ k → valFrom lowVal 0 (hexDigs k n) = some n := by
  induction k with
  | zero => intro n h; have : n = 0 := by simpa using h
            subst this; rfl
  | succ k ih =>
    intro n h
    rw [hexDigs, valFrom_append, ih (n / 16) (by rw [Nat.pow_succ] at h; omega)]
    simp only [valFrom, hexDig_low (show n % 16 < 16 by omega)]
    congr 1
    omega
theorem digs_val : ∀ (l : List UInt8) (m : Nat), valFrom lowVal 0 l = some m → hexDigs l.length m = l ∧ m < 16 ^ l.length := by
  intro l
  induction hn : l.length generalizing l with
  | zero =>
    intro m h
    have : l = [] := List.length_eq_zero_iff.1 hn
    subst this
    cases h
    exact ⟨rfl, by simp⟩
  | succ k ih =>
    intro m h
    rcases List.eq_nil_or_concat l with rfl | ⟨l', c, rfl⟩
    · simp at hn
    rw [List.concat_eq_append] at *
    have hk : l'.length = k := by simpa using hn
    rw [valFrom_append] at h
    cases h1 : valFrom lowVal 0 l' with
    | none => rw [h1] at h; cases h
    | some n =>
      rw [h1] at h
      simp only [valFrom] at h
      cases hc : lowVal c with
      | none => rw [hc] at h; cases h
      | some d =>
        rw [hc] at h
        cases h
        have hd := low_lt hc
        obtain ⟨e1, e2⟩ := ih l' hk n h1
        have hdiv : (16 * n + d) / 16 = n := by omega
        have hmod : (16 * n + d) % 16 = d := by omega
        constructor
        · rw [hexDigs, hdiv, hmod, e1, low_dig hc]
        · rw [Nat.pow_succ]; omega
theorem low_any_all : ∀ (l : List UInt8) (n m : Nat), valFrom lowVal n l = some m → valFrom anyVal n l = some m
  | [], _, _, h => h
  | c :: l, n, m, h => by
    simp only [valFrom] at h ⊢
    cases hc : lowVal c with
    | none => rw [hc] at h; cases h
    | some d => rw [hc] at h; rw [low_any hc]; exact low_any_all l _ m h
theorem pow16 : (16 : Nat) ^ 16 = M64 := by decide
theorem numb_same (ahead name : List UInt8) : numbP ahead name = numbR ahead name := by
  unfold numbP numbR
  by_cases h : name.take ahead.length = ahead
  · rw [if_pos h]
    obtain ⟨s, rfl⟩ : ∃ s, name = ahead ++ s := ⟨name.drop ahead.length, by rw [← List.take_append_drop ahead.length name, h]; simp⟩
    simp only [List.drop_left, List.take_left, List.length_append, List.append_cancel_left_eq]
    by_cases hl : s.length = 16
    · rw [if_pos ⟨by omega, trivial⟩]
      have hne : s ≠ [] := by rintro rfl; simp at hl
      cases h1 : valFrom lowVal 0 s with
      | some n =>
        obtain ⟨e1, e2⟩ := digs_val s n h1
        rw [hl] at e1 e2
        have hp : parse16 s = some n := by
          unfold parse16
          rw [if_neg hne, low_any_all s 0 n h1]
          exact if_pos (by rw [← pow16]; exact e2)
        rw [hp]
        exact if_pos e1
      | none =>
        cases hp : parse16 s with
        | none => rfl
        | some n =>
          refine if_neg fun e => ?_
          have hn : n < 16 ^ 16 := by
            unfold parse16 at hp
            rw [if_neg hne] at hp
            split at hp
            · split at hp
              · rename_i h2; cases hp; rw [pow16]; exact h2
              · cases hp
            · cases hp
          have := val_digs 16 n hn
          rw [e, h1] at this
          cases this
    · rw [if_neg (by omega)]
      cases parse16 s with
      | none => rfl
      | some n =>
        refine if_neg fun e => hl ?_
        rw [← e, hexDigs_length]
  · rw [if_neg h, if_neg (fun x => h x.2)]
/-- a name reads back -/
theorem numb_back (ahead : List UInt8) (n : Nat) (h : n < M64) : numbR ahead (ahead ++ hexDigs 16 n) = (n, true) := by
  unfold numbR
  rw [if_pos ⟨by simp [hexDigs_length], by simp⟩, List.drop_left, val_digs 16 n (by rw [pow16]; exact h)]
/-- only the name of a number reads as it -/
theorem numb_name {ahead s : List UInt8} {n : Nat} (h : numbR ahead s = (n, true)) : s = ahead ++ hexDigs 16 n ∧ n < M64 := by
  unfold numbR at h
  split at h
  · rename_i h1
    split at h
    · rename_i m h2
      simp only [Prod.mk.injEq, and_true] at h
      subst h
      obtain ⟨e1, e2⟩ := digs_val _ m h2
      have hl : (s.drop ahead.length).length = 16 := by simp; omega
      rw [hl] at e1 e2
      exact ⟨by rw [e1]; conv => lhs; rw [← List.take_append_drop ahead.length s, h1.2], by rw [← pow16]; exact e2⟩
    · simp at h
  · simp at h
/-- fewer digits, noughts ahead -/
theorem hexDigs_zeros (j : Nat) : ∀ k n, n < 16 ^ k → hexDigs (j + k) n = List.replicate j 48 ++ hexDigs k n := by
  intro k
  induction k with
  | zero =>
    intro n h
    have : n = 0 := by simpa using h
    subst this
    rw [Nat.add_zero, hexDigs, List.append_nil]
    induction j with
    | zero => rfl
    | succ j ih =>
      rw [hexDigs, Nat.zero_div, ih, List.replicate_succ']
      rfl
  | succ k ih =>
    intro n h
    rw [← Nat.add_assoc, hexDigs, hexDigs, ih (n / 16) (by rw [Nat.pow_succ] at h; omega), List.append_assoc]
theorem hexDigs_mod (k : Nat) : ∀ n, hexDigs k n = hexDigs k (n % 16 ^ k) := by
  induction k with
  | zero => intro n; rfl
  | succ k ih =>
    intro n
    rw [hexDigs, hexDigs, ih (n / 16), Nat.pow_succ, Nat.mul_comm, Nat.mod_mul_right_div_self, Nat.mod_mul_right_mod]
/-- the digits of the rest stand ahead -/
theorem hexDigs_more (j k n : Nat) : hexDigs (j + k) n = hexDigs j (n / 16 ^ k) ++ hexDigs k n := by
  induction k generalizing n with
  | zero => simp [hexDigs]
  | succ k ih =>
    rw [← Nat.add_assoc, hexDigs, ih, hexDigs, List.append_assoc, Nat.div_div_eq_div_mul, Nat.pow_succ, Nat.mul_comm]
end Go.Proofs.YtkbffgnhiohpcaaDoor
