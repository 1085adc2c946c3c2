/- Numbers and texts read from bytes (layer 1): what the program and the reference both compute. -/
import Derived.Test.YteplpgknnlehnaaFrame
import Derived.Test.YteplpgknnlehnaaShelf
import Derived.BigGuardPart
import Derived.WalkMore
namespace Go.Proofs.Yteplpgknnlehnaa
set_option linter.unusedSimpArgs false
set_option linter.unusedVariables false
open Go.RowKit

/-- the number with which bytes begin, how many bytes it takes, and what is wrong (0: nothing, 2: more bytes are wanted, 3: the form) -/
def takeGo : List UInt8 → Nat → Nat → Nat × Nat × Nat
  | [], _, _ => (0, 0, 2)
  | b :: l, i, n => if (i = 9 ∧ 1 < b.toNat) ∨ (0 < i ∧ b.toNat = 0) then (0, 0, 3) else if b.toNat < 128 then (n + b.toNat * 128 ^ i, i + 1, 0) else takeGo l (i + 1) (n + b.toNat % 128 * 128 ^ i)
def takeUint (l : List UInt8) : Nat × Nat × Nat := takeGo l 0 0

theorem pow_le9 {k : Nat} (hk : k ≤ 9) : 128 ^ k ≤ 9223372036854775808 := by
  have := Nat.pow_le_pow_right (n := 128) (by decide) hk
  simpa using this
theorem pow_le8 {k : Nat} (hk : k ≤ 8) : 128 ^ k ≤ 72057594037927936 := by
  have := Nat.pow_le_pow_right (n := 128) (by decide) hk
  simpa using this
theorem mul_fits {k x : Nat} (hk : k ≤ 9) (hx : x < 128) (h9 : k = 9 → x ≤ 1) : x * 128 ^ k ≤ 9223372036854775808 := by
  rcases Nat.lt_or_ge k 9 with h | h
  · have h1 := pow_le8 (by omega : k ≤ 8)
    calc x * 128 ^ k ≤ 127 * 72057594037927936 := Nat.mul_le_mul (by omega) h1
      _ ≤ _ := by decide
  · have h1 := pow_le9 hk
    calc x * 128 ^ k ≤ 1 * 9223372036854775808 := Nat.mul_le_mul (h9 (by omega)) h1
      _ ≤ _ := by decide
theorem sum_fits {n k x : Nat} (hk : k ≤ 9) (hn : n < 128 ^ k) (hx : x < 128) (h9 : k = 9 → x ≤ 1) : n + x * 128 ^ k < 18446744073709551616 := by
  have h1 := mul_fits hk hx h9
  have h2 := pow_le9 hk
  omega

theorem takeGo_facts : ∀ (l : List UInt8) (i n : Nat), i ≤ 9 → n < 128 ^ i → (takeGo l i n).1 < M64 ∧ (takeGo l i n).2.1 ≤ l.length + i ∧ (takeGo l i n).2.1 ≤ 10
  | [], i, n, _, _ => by simp [takeGo, M64]
  | b :: l, i, n, hi, hn => by
    unfold takeGo
    split
    · simp [M64]
    · rename_i h
      split
      · rename_i h1
        have := sum_fits hi hn h1 (fun h9 => by omega)
        exact ⟨by unfold M64; exact this, by simp; omega, by simp; omega⟩
      · rename_i h1
        have hi8 : i < 9 := by
          rcases Nat.lt_or_ge i 9 with h2 | h2
          · exact h2
          · exact absurd (Or.inl ⟨by omega, by omega⟩) h
        have h3 : n + b.toNat % 128 * 128 ^ i < 128 ^ (i + 1) := by
          rw [Nat.pow_succ]
          have : b.toNat % 128 * 128 ^ i ≤ 127 * 128 ^ i := Nat.mul_le_mul_right _ (by omega)
          omega
        obtain ⟨a, b, c⟩ := takeGo_facts l (i + 1) (n + b.toNat % 128 * 128 ^ i) (by omega) h3
        exact ⟨a, by simp; omega, c⟩
theorem takeUint_lt (l : List UInt8) : (takeUint l).1 < M64 := (takeGo_facts l 0 0 (by omega) (by simp)).1
theorem takeUint_len (l : List UInt8) : (takeUint l).2.1 ≤ l.length := (takeGo_facts l 0 0 (by omega) (by simp)).2.1

theorem or_shift {n k x : Nat} (hk : k ≤ 9) (hn : n < 128 ^ k) (hx : x < 128) (h9 : k = 9 → x ≤ 1) :
    bits .or .u64 (n : Int) ((x : Int) * 2 ^ (7 * (k : Int)).toNat % 18446744073709551616) = ((n + x * 128 ^ k : Nat) : Int) := by
  have e1 : (7 * (k : Int)).toNat = 7 * k := by omega
  have e2 : (2 : Nat) ^ (7 * k) = 128 ^ k := by rw [Nat.pow_mul]
  have h1 := mul_fits hk hx h9
  have h2 := sum_fits hk hn hx h9
  have e3 : ((x : Int) * 2 ^ (7 * k)) = ((x * 128 ^ k : Nat) : Int) := by rw [← e2]; push_cast; rfl
  rw [e1, e3, Int.emod_eq_of_lt (by omega) (by omega)]
  have h3 := (bits_nat .u64 64 (by decide) (fun m h1 h2 => IntWalk.u64_in m (by omega)) n (x * 128 ^ k) (by omega) (by omega)).2
  rw [h3]
  congr 1
  have h4 := Nat.two_pow_add_eq_or_of_lt (i := 7 * k) (b := n) (by rw [e2]; exact hn) x
  rw [e2, Nat.mul_comm] at h4
  rw [Nat.or_comm, ← h4, Nat.add_comm]
theorem or_wrap {n k x : Nat} (hk : k ≤ 9) (hn : n < 128 ^ k) (hx : x < 128) (h9 : k = 9 → x ≤ 1) : bits .or .u64 (n : Int) (IntKind.u64.wrap ((x : Int) * 2 ^ (7 * k))) = ((n + x * 128 ^ k : Nat) : Int) := by
  have h := or_shift hk hn hx h9
  rw [show (7 * (k : Int)).toNat = 7 * k by omega] at h
  have h1 := mul_fits hk hx h9
  have e2 : (2 : Nat) ^ (7 * k) = 128 ^ k := by rw [Nat.pow_mul]
  have e3 : ((x : Int) * 2 ^ (7 * k)) = ((x * 128 ^ k : Nat) : Int) := by rw [← e2]; push_cast; rfl
  rw [e3] at h ⊢
  rw [Int.emod_eq_of_lt (by omega) (by omega)] at h
  rw [IntWalk.u64_in _ (by omega), h]
theorem or_nine {n x : Nat} (hn : n < 128 ^ 9) (hx : x ≤ 1) : bits .or .u64 (n : Int) ((x : Int) * 9223372036854775808) = ((n + x * 128 ^ 9 : Nat) : Int) := by
  have h := or_shift (k := 9) (by omega) hn (by omega) (fun _ => hx)
  have e : (x : Int) * 2 ^ (7 * (9 : Int)).toNat % 18446744073709551616 = (x : Int) * 9223372036854775808 := by
    rw [show (7 * (9 : Int)).toNat = 63 by decide, show (2 : Int) ^ 63 = 9223372036854775808 by decide]
    omega
  rw [← h, ← e]
  rfl
theorem and127 {x : Nat} (hx : x < 256) : bits .and .u8 (x : Int) 127 = ((x % 128 : Nat) : Int) := by
  have h0 : ∀ x : Fin 256, bits .and .u8 (x.val : Int) 127 = ((x.val % 128 : Nat) : Int) := by decide +kernel
  exact h0 ⟨x, hx⟩

theorem takeGo_step {l : List UInt8} {k n : Nat} (hk : k < l.length) : takeGo (l.drop k) k n =
    if (k = 9 ∧ 1 < l[k].toNat) ∨ (0 < k ∧ l[k].toNat = 0) then (0, 0, 3) else if l[k].toNat < 128 then (n + l[k].toNat * 128 ^ k, k + 1, 0) else takeGo (l.drop (k + 1)) (k + 1) (n + l[k].toNat % 128 * 128 ^ k) := by
  rw [List.drop_eq_getElem_cons hk, takeGo]
theorem takeGo_end {l : List UInt8} {k n : Nat} (hk : l.length ≤ k) : takeGo (l.drop k) k n = (0, 0, 2) := by
  rw [List.drop_of_length_le hk, takeGo]
theorem next_fits {n k x : Nat} (hn : n < 128 ^ k) : n + x % 128 * 128 ^ k < 128 ^ (k + 1) := by
  rw [Nat.pow_succ]
  have : x % 128 * 128 ^ k ≤ 127 * 128 ^ k := Nat.mul_le_mul_right _ (by omega)
  omega

set_option maxRecDepth 100000 in
set_option maxHeartbeats 800000 in
theorem takeUint_any (l : List UInt8) (hl : l.length ≤ 1099511627776) (w : World) :
    Calls Try.prog 59 #[str l] w fun e w' => e = .returned (.tuple #[.int .u64 (takeUint l).1, .int .i64 (takeUint l).2.1, .int .i64 (takeUint l).2.2]) ∧ w = w' := by
  go_enter Try.func59, Try.ntmps59
  go_wp2
  go_step3
  go_wp2
  go_step3
  go_wp2
  go_loop [5, 6, 11] (fun v5 v6 v11 => ∃ k n : Nat, k ≤ l.length ∧ k ≤ 9 ∧ v11 = .int .i64 k ∧ v5 = .int .u64 n ∧ v6 = .int .i64 2 ∧ Hid (n < 128 ^ k) ∧ Hid (takeGo (l.drop k) k n = takeUint l)) (fun _ _ i => l.length - (intOf i).toNat)
  · exact ⟨0, 0, by simp, by omega, rfl, rfl, rfl, by simp [Hid], rfl⟩
  · obtain ⟨k, n, hk, hk9, rfl, rfl, rfl, hn, ht⟩ := hrel
    by_cases hlt : k < l.length
    · have HT := Lib.hid (ht.out.symm.trans (takeGo_step (n := n) hlt))
      have hx := l[k].toNat_lt
      obtain ⟨x, hxx⟩ : ∃ x, l[k].toNat = x := ⟨_, rfl⟩
      rw [hxx] at HT hx
      have HX := Lib.hid (ba_get hlt)
      have hx' : ((⟨l.toArray⟩ : ByteArray)[k]'(by show k < l.toArray.size; simpa using hlt)).toNat = x := hxx
      have hand := and127 (x := x) hx
      clear hxx ht
      have HA : Hid (x < 128 → k < 9 → bits .or .u64 (n : Int) (IntKind.u64.wrap ((x : Int) * 2 ^ (7 * k))) = ((n + x * 128 ^ k : Nat) : Int)) := fun h1 h2 => or_wrap hk9 hn.out h1 (by omega)
      have HB : Hid (k < 9 → bits .or .u64 (n : Int) (IntKind.u64.wrap ((x : Int) % 128 * 2 ^ (7 * k))) = ((n + x % 128 * 128 ^ k : Nat) : Int)) := fun h2 => by
        have := or_wrap (x := x % 128) hk9 hn.out (by omega) (by omega)
        push_cast at this ⊢
        exact this
      have HC : Hid (x ≤ 1 → k = 9 → bits .or .u64 (n : Int) ((x : Int) * 9223372036854775808) = ((n + x * 128 ^ k : Nat) : Int)) := fun h1 h2 => by subst h2; exact or_nine hn.out h1
      go_wp2
      all_goals (try simp only [beq_iff_eq, beq_eq_false_iff_ne, ne_eq] at *)
      all_goals first
        | (go_ret3; exact ⟨by rw [HT.out, if_pos (by omega)]; rfl, rfl⟩)
        | (go_ret3; exact ⟨by rw [HT.out, if_neg (by omega), if_pos (by omega)]; (first | rw [HA.out (by omega) (by omega)] | rw [HC.out (by omega) (by omega)]); (first | (simp; done) | (simp; omega)), rfl⟩)
        | exact ⟨⟨k + 1, n + x % 128 * 128 ^ k, by omega, by omega, by simp, by rw [HB.out (by omega)], by simp, next_fits hn.out, by unfold Hid; rw [HT.out, if_neg (by omega), if_neg (by omega)]⟩, by simp [intOf]; omega⟩
    · have HT := Lib.hid (ht.out.symm.trans (takeGo_end (n := n) (by omega)))
      clear ht
      go_wp2
      go_ret3
      exact ⟨by rw [HT.out]; rfl, rfl⟩

set_option maxRecDepth 100000 in
set_option maxHeartbeats 800000 in
theorem takeUint_ref (l : List UInt8) (hl : l.length ≤ 1099511627776) (w : World) :
    Calls Try.prog 83 #[str l] w fun e w' => e = .returned (.tuple #[.int .u64 (takeUint l).1, .int .i64 (takeUint l).2.1, .int .i64 (takeUint l).2.2]) ∧ w = w' := by
  go_enter Try.func83, Try.ntmps83
  go_wp2
  go_loop [5, 6, 7] (fun v5 v6 v7 => ∃ k n P : Nat, k ≤ l.length ∧ k ≤ 9 ∧ v7 = .int .i64 k ∧ v5 = .int .u64 n ∧ v6 = .int .u64 P ∧ Hid (P = 128 ^ k) ∧ Hid (n < 128 ^ k) ∧ Hid (takeGo (l.drop k) k n = takeUint l)) (fun _ _ i => l.length - (intOf i).toNat)
  · exact ⟨0, 0, 1, by simp, by omega, rfl, rfl, rfl, by simp [Hid], by simp [Hid], rfl⟩
  · obtain ⟨k, n, P, hk, hk9, rfl, rfl, rfl, hP, hn, ht⟩ := hrel
    by_cases hlt : k < l.length
    · have HT := Lib.hid (ht.out.symm.trans (takeGo_step (n := n) hlt))
      have hx := l[k].toNat_lt
      obtain ⟨x, hxx⟩ : ∃ x, l[k].toNat = x := ⟨_, rfl⟩
      rw [hxx] at HT hx
      have hx' : ((⟨l.toArray⟩ : ByteArray)[k]'(by show k < l.toArray.size; simpa using hlt)).toNat = x := hxx
      clear hxx ht
      by_cases hf : k = 9 ∧ 1 < x
      · obtain ⟨hf9, hf⟩ := hf
        have HF9 := Lib.hid hf9
        clear hf9
        go_wp2
        all_goals have hf9 := HF9.out
        all_goals first
          | (exfalso; omega)
          | (go_ret3; exact ⟨by rw [HT.out, if_pos (by omega)]; rfl, rfl⟩)
      · have hY := mul_fits (k := k) (x := x % 128) hk9 (by omega) (by omega)
        have hYn := sum_fits (x := x % 128) hk9 hn.out (by omega) (by omega)
        rw [← hP.out] at hY hYn HT
        have hP8 : k < 9 → P ≤ 72057594037927936 := fun h => by rw [hP.out]; exact pow_le8 (by omega)
        obtain ⟨Y, hYY⟩ : ∃ Y, x % 128 * P = Y := ⟨_, rfl⟩
        rw [hYY] at hY hYn HT
        have hmul : (x : Int) % 128 * (P : Int) = (Y : Int) := by rw [← hYY]; push_cast; rfl
        have HY := Lib.hid hYY
        clear hYY
        have HX : Hid (x < 128 → x * P = Y) := fun h => by rw [← HY.out, Nat.mod_eq_of_lt h]
        go_wp2
        all_goals (try simp only [beq_iff_eq, beq_eq_false_iff_ne, ne_eq] at *)
        all_goals first
          | (go_ret3; exact ⟨by rw [HT.out, if_pos (by omega)]; rfl, rfl⟩)
          | (go_ret3; exact ⟨by rw [HT.out, if_neg (by omega), if_pos (by omega), HX.out (by omega)]; (first | (simp; done) | (simp; omega)), rfl⟩)
          | exact ⟨⟨k + 1, n + Y, P * 128, by omega, by omega, by simp, by simp, by simp, by unfold Hid; rw [hP.out, Nat.pow_succ], by unfold Hid; rw [← HY.out, hP.out]; exact next_fits hn.out, by unfold Hid; rw [HT.out, if_neg (by omega), if_neg (by omega)]⟩, by simp [intOf]; omega⟩
    · have HT := Lib.hid (ht.out.symm.trans (takeGo_end (n := n) (by omega)))
      clear ht
      go_wp2
      go_ret3
      exact ⟨by rw [HT.out]; rfl, rfl⟩
end Go.Proofs.Yteplpgknnlehnaa
