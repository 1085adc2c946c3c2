/- Numbers, texts and frames written and read again (layers 1 and 2), as plain functions; and what is cut within one is refused. No program in sight. -/
import Derived.Test.YteplpgknnlehnaaFrTake
namespace Go.Proofs.Yteplpgknnlehnaa
set_option linter.unusedSimpArgs false
set_option linter.unusedVariables false
open Go.RowKit

theorem hiByte_nat (n : Nat) : (hiByte n).toNat = n % 128 + 128 := by simp [hiByte]; omega
theorem loByte_nat {n : Nat} (h : n < 128) : (loByte n).toNat = n := by simp [loByte]; omega

theorem pow_nine {i : Nat} (h : 9 ≤ i) : 9223372036854775808 ≤ 128 ^ i := by
  have := Nat.pow_le_pow_right (n := 128) (by decide) h
  simpa using this
theorem fits_lo {m i : Nat} (h : m * 128 ^ i < 18446744073709551616) (hm : 0 < m) : i ≤ 9 := by
  rcases Nat.lt_or_ge 9 i with h1 | h1
  · have h2 := Nat.pow_le_pow_right (n := 128) (by decide) (show 10 ≤ i by omega)
    have h3 : 128 ^ i ≤ m * 128 ^ i := Nat.le_mul_of_pos_left _ hm
    have : (128 : Nat) ^ 10 = 1180591620717411303424 := by decide
    omega
  · exact h1
theorem fits_nine {m : Nat} (h : m * 128 ^ 9 < 18446744073709551616) : m ≤ 1 := by
  have : (128 : Nat) ^ 9 = 9223372036854775808 := by decide
  omega
theorem fits_hi {m i : Nat} (h : m * 128 ^ i < 18446744073709551616) (hm : 128 ≤ m) : i < 9 := by
  have h1 := fits_lo h (by omega)
  rcases Nat.lt_or_ge i 9 with h2 | h2
  · exact h2
  · obtain rfl : i = 9 := by omega
    have := fits_nine h
    omega
theorem div_fits {m i : Nat} (h : m * 128 ^ i < 18446744073709551616) : m / 128 * 128 ^ (i + 1) < 18446744073709551616 := by
  have : m / 128 * 128 ^ (i + 1) ≤ m * 128 ^ i := by
    rw [Nat.pow_succ, Nat.mul_comm (128 ^ i) 128, ← Nat.mul_assoc]
    exact Nat.mul_le_mul_right _ (Nat.div_mul_le_self m 128)
  omega

theorem takeGo_put (rest : List UInt8) : ∀ (m i acc : Nat), m * 128 ^ i < 18446744073709551616 → (i = 0 ∨ 0 < m) → takeGo (putUint m ++ rest) i acc = (acc + m * 128 ^ i, i + (putUint m).length, 0) := by
  intro m
  induction m using Nat.strongRecOn with
  | ind m ih =>
    intro i acc h h0
    by_cases hm : m < 128
    · rw [putUint_lo hm, List.cons_append, takeGo, loByte_nat hm]
      rw [if_neg, if_pos hm]
      · simp
      · rintro (⟨rfl, h1⟩ | ⟨h1, h2⟩)
        · have := fits_nine h; omega
        · omega
    · have hi := fits_hi h (by omega)
      rw [putUint_hi hm, List.cons_append, takeGo, hiByte_nat]
      rw [if_neg (by omega), if_neg (by omega), ih (m / 128) (by omega) (i + 1) _ (div_fits h) (by omega)]
      have e : (m % 128 + 128) % 128 = m % 128 := by omega
      rw [e]
      have e2 : m % 128 * 128 ^ i + m / 128 * 128 ^ (i + 1) = m * 128 ^ i := by
        rw [Nat.pow_succ, Nat.mul_comm (128 ^ i) 128, ← Nat.mul_assoc, ← Nat.add_mul]
        congr 1
        omega
      rw [List.length_cons, Nat.add_assoc, e2, Nat.add_assoc, Nat.add_comm 1]
theorem takeUint_put {n : Nat} (h : n < M64) (rest : List UInt8) : takeUint (putUint n ++ rest) = (n, (putUint n).length, 0) := by
  have := takeGo_put rest n 0 0 (by unfold M64 at h; omega) (.inl rfl)
  unfold takeUint
  rw [this]
  simp
theorem putUint_pos (n : Nat) : 0 < (putUint n).length := by
  by_cases h : n < 128
  · rw [putUint_lo h]; simp
  · rw [putUint_hi h]; simp
theorem takeGo_cut : ∀ (m i acc k : Nat), m * 128 ^ i < 18446744073709551616 → k < (putUint m).length → takeGo ((putUint m).take k) i acc = (0, 0, 2) := by
  intro m
  induction m using Nat.strongRecOn with
  | ind m ih =>
    intro i acc k h hk
    cases k with
    | zero => simp [takeGo]
    | succ k =>
      by_cases hm : m < 128
      · rw [putUint_lo hm] at hk; simp at hk
      · have hi := fits_hi h (by omega)
        rw [putUint_hi hm] at hk ⊢
        rw [List.take_succ_cons, takeGo, hiByte_nat, if_neg (by omega), if_neg (by omega)]
        exact ih (m / 128) (by omega) (i + 1) _ k (div_fits h) (by simpa using hk)
theorem takeUint_cut {n k : Nat} (h : n < M64) (hk : k < (putUint n).length) : takeUint ((putUint n).take k) = (0, 0, 2) := takeGo_cut n 0 0 k (by unfold M64 at h; omega) hk

theorem takeText_put {l : List UInt8} {most : Nat} (h : l.length ≤ most) (h2 : l.length < M64) (rest : List UInt8) : takeText most (putText l ++ rest) = (l, (putText l).length, 0) := by
  have hu := takeUint_put h2 (l ++ rest)
  unfold takeText putText
  rw [List.append_assoc, hu]
  dsimp only
  rw [if_neg (by simp), if_neg (by omega), if_neg (by simp)]
  simp
theorem takeText_cut {l : List UInt8} {most k : Nat} (h2 : l.length < M64) (hk : k < (putText l).length) : (takeText most ((putText l).take k)).2.2 ≠ 0 := by
  unfold putText at *
  rw [List.length_append] at hk
  rcases Nat.lt_or_ge k (putUint l.length).length with h1 | h1
  · rw [List.take_append_of_le_length (Nat.le_of_lt h1)]
    unfold takeText
    rw [takeUint_cut h2 h1]
    simp
  · rw [List.take_append, List.take_of_length_le h1]
    have hu := takeUint_put h2 (l.take (k - (putUint l.length).length))
    unfold takeText
    rw [hu]
    dsimp only
    rw [if_neg (by simp)]
    split
    · simp
    · rw [if_pos (by simp; omega)]
      simp

theorem frameBytes_length (kind : UInt8) (l : List UInt8) : (frameBytes kind l).length = 5 + (putText l).length := by
  simp [frameBytes, frameRest, little_length]; omega
theorem frameBytes_drop5 (kind : UInt8) (l rest : List UInt8) : (frameBytes kind l ++ rest).drop 5 = putText l ++ rest := by
  have h : (little (crc (frameRest kind l))).length = 4 := little_length _
  unfold frameBytes
  rw [List.append_assoc, List.drop_append, h, List.drop_of_length_le (by rw [h]; omega)]
  simp [frameRest]
theorem frameBytes_drop4 (kind : UInt8) (l rest : List UInt8) : (frameBytes kind l ++ rest).drop 4 = frameRest kind l ++ rest := by
  have h : (little (crc (frameRest kind l))).length = 4 := little_length _
  unfold frameBytes
  rw [List.append_assoc, List.drop_append, h, List.drop_of_length_le (by rw [h]; omega)]
  simp
theorem frameBytes_take4 (kind : UInt8) (l rest : List UInt8) : (frameBytes kind l ++ rest).take 4 = little (crc (frameRest kind l)) := by
  have h : (little (crc (frameRest kind l))).length = 4 := little_length _
  unfold frameBytes
  rw [List.append_assoc, List.take_append, h, List.take_of_length_le (by rw [h]; omega)]
  simp
theorem frameBytes_get4 (kind : UInt8) (l rest : List UInt8) : (frameBytes kind l ++ rest).getD 4 0 = kind := by
  have h := frameBytes_drop4 kind l rest
  have h2 : ((frameBytes kind l ++ rest).drop 4)[0]? = some kind := by rw [h]; simp [frameRest]
  rw [List.getElem?_drop] at h2
  simp [List.getD, h2]
theorem takeFrame_put {kind : UInt8} {l : List UInt8} (hk : kind ≠ 0) (hl : l.length ≤ 262144) (rest : List UInt8) : takeFrame (frameBytes kind l ++ rest) = (⟨kind, l⟩, (frameBytes kind l).length, 0) := by
  have ht := takeText_put (most := 262144) hl (by unfold M64; omega) rest
  unfold takeFrame
  rw [frameBytes_drop5, ht, frameBytes_get4, frameBytes_drop4, frameBytes_take4]
  dsimp only
  rw [if_neg (by rw [List.length_append, frameBytes_length]; omega), if_neg hk, if_neg (by simp)]
  have e : (frameRest kind l ++ rest).take ((putText l).length + 1) = frameRest kind l := by
    rw [List.take_append_of_le_length (by simp [frameRest]), List.take_of_length_le (by simp [frameRest])]
  rw [e, if_neg (by simp), frameBytes_length, Nat.add_comm]
theorem takeFrame_cut {kind : UInt8} {l : List UInt8} {k : Nat} (hl : l.length ≤ 262144) (hk : k < (frameBytes kind l).length) : (takeFrame ((frameBytes kind l).take k)).2.2 ≠ 0 := by
  unfold takeFrame
  split
  · simp
  · rename_i h5
    split
    · simp
    · have hd : ((frameBytes kind l).take k).drop 5 = (putText l).take (k - 5) := by
        have := frameBytes_drop5 kind l []
        rw [List.append_nil, List.append_nil] at this
        rw [List.drop_take, this]
      rw [hd]
      rw [frameBytes_length] at hk
      have hk5 : 5 ≤ k := by
        have := h5
        rw [List.length_take] at this
        omega
      have hc := takeText_cut (most := 262144) (k := k - 5) (l := l) (by unfold M64; omega) (by omega)
      rw [if_pos hc]
      exact hc

theorem putUint_mono : ∀ (b a : Nat), a ≤ b → (putUint a).length ≤ (putUint b).length := by
  intro b
  induction b using Nat.strongRecOn with
  | ind b ih =>
    intro a h
    by_cases ha : a < 128
    · rw [putUint_lo ha]
      have := putUint_pos b
      simp
      omega
    · rw [putUint_hi ha, putUint_hi (n := b) (by omega)]
      have := ih (b / 128) (by omega) (a / 128) (Nat.div_le_div_right h)
      simpa using this
end Go.Proofs.Yteplpgknnlehnaa
