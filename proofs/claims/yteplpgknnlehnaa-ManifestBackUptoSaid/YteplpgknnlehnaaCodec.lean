/- Numbers and texts as bytes (layer 1): what the program and the reference both compute. -/
import Derived.Test.YteplpgknnlehnaaProg
import Derived.Test.YteplpgknnlehnaaBase
import Derived.WalkKit
import Derived.WalkLawsBesides
import Derived.WalkSpells
import Derived.Deep.QuietTactic
import Derived.BigQuiet
namespace Go.Proofs.Yteplpgknnlehnaa
set_option linter.unusedSimpArgs false
set_option linter.unusedVariables false
open Go.RowKit

/-- a byte of seven bits behind which more come; the last one -/
def hiByte (n : Nat) : UInt8 := UInt8.ofNat (n % 128 + 128)
def loByte (n : Nat) : UInt8 := UInt8.ofNat n

/-- a number as bytes, seven bits each -/
def putUint (n : Nat) : List UInt8 := if n < 128 then [loByte n] else hiByte n :: putUint (n / 128)
termination_by n
decreasing_by omega

theorem putUint_lo {n : Nat} (h : n < 128) : putUint n = [loByte n] := by rw [putUint, if_pos h]
theorem putUint_hi {n : Nat} (h : ¬ n < 128) : putUint n = hiByte n :: putUint (n / 128) := by rw [putUint, if_neg h]

theorem putUint_length (k n : Nat) (h : n < 128 ^ (k + 1)) : (putUint n).length ≤ k + 1 := by
  induction k generalizing n with
  | zero =>
    rw [putUint_lo (by simpa using h)]; simp
  | succ k ih =>
    by_cases h1 : n < 128
    · rw [putUint_lo h1]; simp
    · rw [putUint_hi h1]
      have := ih (n / 128) (by rw [Nat.pow_succ] at h; omega)
      simp; omega
theorem putUint_ten {n : Nat} (h : n < M64) : (putUint n).length ≤ 10 := putUint_length 9 n (by unfold M64 at h; omega)

theorem Try.bytesOf : ElemOf Try.prog 75 5 1 1 := elemOf_mk Try.underlying75 (z := .int .u8 0) (by kernel_rfl) rfl (by decide)

theorem cell_byte (b : UInt8) : ∀ u ∈ byteC b, u.oneCell' = true := by simp [byteC, byteV, Value.oneCell']

theorem hi_cell (k : Nat) : [Value.int .u8 (bits .or .u8 ((k : Int) % 256) 128)] = byteC (hiByte k) := by
  have h : bits .or .u8 ((k : Int) % 256) 128 = ((k % 128 + 128 : Nat) : Int) := by
    have h0 : ∀ x : Fin 256, bits .or .u8 (x.val : Int) 128 = ((x.val % 128 + 128 : Nat) : Int) := by decide +kernel
    have h1 := h0 ⟨k % 256, by omega⟩
    simp only [Int.natCast_emod] at h1
    rw [show ((k : Int) % 256) = (k : Int) % ((256 : Nat) : Int) from rfl, h1]
    omega
  rw [h]
  simp [byteC, byteV, hiByte]
  omega
theorem lo_cell (k : Nat) (h : k < 128) : [Value.int .u8 (k : Int)] = byteC (loByte k) := by
  simp [byteC, byteV, loByte]
  omega

set_option maxRecDepth 100000 in
set_option maxHeartbeats 400000 in
theorem putUint_any (m : Nat) (hm : m < M64) (w : World) :
    Calls Try.prog 47 #[.int .u64 m] w fun e w' => e = .returned (str (putUint m)) ∧ Ext w w' := by
  go_enter Try.func47, Try.ntmps47
  go_wp2
  go_loopw [0, 3] (fun i v wr => ∃ (k : Nat) (xs : List UInt8) (A : Option Addr) (c : Nat), i = .int .u64 k ∧ v = .slice A xs.length c ∧ Hid (k < M64) ∧ Hid (xs ++ putUint k = putUint m) ∧ Own wr w.heap.size 5 byteC 1 A c xs ∧ Ext w wr)
    (fun i _ _ => (intOf i).toNat)
  · exact ⟨m, [], none, 0, rfl, rfl, hm, rfl, Own.nil_, Below.refl _ _⟩
  · obtain ⟨k, xs, A, c, rfl, rfl, hk, hx, hown, hb⟩ := hrel
    have hl : xs.length ≤ 10 := by have h1 := congrArg List.length hx.out; have h2 := putUint_ten hm; rw [List.length_append] at h1; omega
    by_cases hlt : 128 ≤ k
    · go_wp2_with (at_builtin; refine wpList_push Try.bytesOf rfl _ _ rfl (hiByte k) rfl hown rfl rfl (hi_cell k) rfl (cell_byte _) (by omega) (by omega) hb.size ?_)
      rintro A' c' w1 hown' hg
      go_wp2
      exact ⟨⟨k / 128, xs ++ [hiByte k], A', c', by simp, by simp, Nat.lt_of_le_of_lt (Nat.div_le_self _ _) hk, by rw [← hx.out, putUint_hi (n := k) (by omega)]; simp [Hid], hown', hown.below_push hb (Nat.le_refl _) hb.size hg⟩, by simp [intOf]; omega⟩
    · go_wp2_with (at_builtin; refine wpList_push Try.bytesOf rfl _ _ rfl (loByte k) rfl hown rfl rfl (lo_cell k (by omega)) rfl (cell_byte _) (by omega) (by omega) hb.size ?_)
      rintro A' c' w1 hown' hg
      have hs := hown'.string Try.underlying75 Try.underlying5 Try.underlying9 (n := xs.length + 1) (by simp)
      go_wp2
      go_ret
      have e : str (xs ++ [loByte k]) = str (putUint m) := by rw [← hx.out, putUint_lo (by omega)]
      exact ⟨congrArg _ e, hown.below_push hb (Nat.le_refl _) hb.size hg⟩
theorem hi_cell2 (k : Nat) : [Value.int .u8 ((k : Int) % 128 + 128)] = byteC (hiByte k) := by
  simp [byteC, byteV, hiByte]
  omega

set_option maxRecDepth 100000 in
set_option maxHeartbeats 400000 in
theorem putUint_ref (m : Nat) (hm : m < M64) (w : World) :
    Calls Try.prog 73 #[.int .u64 m] w fun e w' => e = .returned (str (putUint m)) ∧ Ext w w' := by
  go_enter Try.func73, Try.ntmps73
  go_wp2
  go_loopw [0, 3] (fun i v wr => ∃ (k : Nat) (xs : List UInt8) (A : Option Addr) (c : Nat), i = .int .u64 k ∧ v = .slice A xs.length c ∧ Hid (k < M64) ∧ Hid (xs ++ putUint k = putUint m) ∧ Own wr w.heap.size 5 byteC 1 A c xs ∧ Ext w wr)
    (fun i _ _ => (intOf i).toNat)
  · exact ⟨m, [], none, 0, rfl, rfl, hm, rfl, Own.nil_, Below.refl _ _⟩
  · obtain ⟨k, xs, A, c, rfl, rfl, hk, hx, hown, hb⟩ := hrel
    have hl : xs.length ≤ 10 := by have h1 := congrArg List.length hx.out; have h2 := putUint_ten hm; rw [List.length_append] at h1; omega
    by_cases hlt : 128 ≤ k
    · have hw : IntKind.u64.wrap ((k : Int) / 128) = (k : Int) / 128 := IntWalk.u64_in _ (by have := hk.out; unfold M64 at this; omega)
      go_wp2_with (at_builtin; refine wpList_push Try.bytesOf rfl _ _ rfl (hiByte k) rfl hown rfl rfl (hi_cell2 k) rfl (cell_byte _) (by omega) (by omega) hb.size ?_)
      rintro A' c' w1 hown' hg
      go_wp2
      exact ⟨⟨k / 128, xs ++ [hiByte k], A', c', by simp, by simp, Nat.lt_of_le_of_lt (Nat.div_le_self _ _) hk, by rw [← hx.out, putUint_hi (n := k) (by omega)]; simp [Hid], hown', hown.below_push hb (Nat.le_refl _) hb.size hg⟩, by simp [intOf]; omega⟩
    · go_wp2_with (at_builtin; refine wpList_push Try.bytesOf rfl _ _ rfl (loByte k) rfl hown rfl rfl (lo_cell k (by omega)) rfl (cell_byte _) (by omega) (by omega) hb.size ?_)
      rintro A' c' w1 hown' hg
      have hs := hown'.string Try.underlying75 Try.underlying5 Try.underlying9 (n := xs.length + 1) (by simp)
      go_wp2
      go_ret
      have e : str (xs ++ [loByte k]) = str (putUint m) := by rw [← hx.out, putUint_lo (by omega)]
      exact ⟨congrArg _ e, hown.below_push hb (Nat.le_refl _) hb.size hg⟩
/-- a text with its length ahead -/
def putText (l : List UInt8) : List UInt8 := putUint l.length ++ l

theorem putText_length {l : List UInt8} (h : l.length ≤ 1099511627776) : (putText l).length ≤ l.length + 10 := by
  rw [putText, List.length_append]
  have := putUint_ten (n := l.length) (by unfold M64; omega)
  omega

theorem len_M64 {n : Nat} (h : n ≤ 1099511627776) : n < M64 := by unfold M64; omega

set_option maxRecDepth 100000 in
set_option maxHeartbeats 400000 in
theorem putText_any (l : List UInt8) (hl : l.length ≤ 1099511627776) (w : World) :
    Calls Try.prog 48 #[str l] w fun e w' => e = .returned (str (putText l)) ∧ Ext w w' := by
  have hp := putUint_ten (len_M64 hl)
  go_enter Try.func48, Try.ntmps48
  go_wp2_with (go_at_call 47; refine (putUint_any l.length (len_M64 hl) _).mono ?_; rintro e w1 ⟨rfl, hb⟩)
  go_ret
  exact ⟨by simp [putText, ByteArray.mk_append_mk], hb⟩
set_option maxRecDepth 100000 in
set_option maxHeartbeats 400000 in
theorem putText_ref (l : List UInt8) (hl : l.length ≤ 1099511627776) (w : World) :
    Calls Try.prog 52 #[str l] w fun e w' => e = .returned (str (putText l)) ∧ Ext w w' := by
  have hp := putUint_ten (len_M64 hl)
  go_enter Try.func52, Try.ntmps52
  go_wp2_with (go_at_call 73; refine (putUint_ref l.length (len_M64 hl) _).mono ?_; rintro e w1 ⟨rfl, hb⟩)
  go_ret
  exact ⟨by simp [putText, ByteArray.mk_append_mk], hb⟩
end Go.Proofs.Yteplpgknnlehnaa
