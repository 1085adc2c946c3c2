/- Parts of this work, one behind the other: HexW. -/
import Derived.Test.YtmmaddmlfofgbaaDoorProg
import Derived.Lib.ConvBytes
import Derived.Lib.AtoiErrMem
import Derived.Lib.IfaceEq
import Derived.Lib.Walk
import Derived.Lib.Strings
import Derived.Laws.BitsLemmas
import Derived.Laws.Strings3
import Derived.IntWalk
import Derived.BigCall
import Derived.BigGuard
import Derived.Test.YtmmaddmlfofgbaaDoorPko0
/- Numbers in digits of sixteen: the library's parser at base 16, 64 bits (walk). -/
namespace Go.Proofs.YtmmaddmlfofgbaaDoor
set_option linter.unusedSimpArgs false
set_option linter.unusedVariables false
open Go.RowKit

theorem u8_or (c : UInt8) : bits .or .u8 (c.toNat : Int) 32 = ((c ||| 32).toNat : Int) := by
  have h : ∀ n, n < 256 → bits .or .u8 ((n : Nat) : Int) 32 = (((UInt8.ofNat n) ||| 32).toNat : Int) := by decide +kernel
  have := h c.toNat c.toNat_lt
  rwa [UInt8.ofNat_toNat] at this
theorem lower_any (c : UInt8) (w : World) : Calls Tryd.prog 52 #[.int .u8 (c.toNat : Int)] w fun e w' => e = .returned (.int .u8 ((c ||| 32).toNat : Int)) ∧ w = w' := by
  have h := u8_or c
  go_enter Tryd.func52, Tryd.ntmps52
  go_wp2
  go_ret
  exact ⟨rfl, rfl⟩
/-- how the parser ends -/
def PU (w : World) (s : List UInt8) (e : Ending) (w' : World) : Prop :=
  Ext w w' ∧ ((∃ n, parse16 s = some n ∧ e = .returned (.tuple #[.int .u64 (n : Int), .nilIface])) ∨ (parse16 s = none ∧ ∃ v k, (k = 1 ∨ k = 2) ∧ e = .returned (.tuple #[.int .u64 v, .iface 91 (.int .i64 k)])))
theorem PU.ok {w w' : World} {s : List UInt8} {e : Ending} {n : Nat} (hX : Ext w w') (h : parse16 s = some n) (he : e = .returned (.tuple #[.int .u64 (n : Int), .nilIface])) : PU w s e w' := ⟨hX, .inl ⟨n, h, he⟩⟩
theorem PU.no {w w' : World} {s : List UInt8} {e : Ending} {v k : Int} (hX : Ext w w') (h : parse16 s = none) (hk : k = 1 ∨ k = 2) (he : e = .returned (.tuple #[.int .u64 v, .iface 91 (.int .i64 k)])) : PU w s e w' := ⟨hX, .inr ⟨h, v, k, hk, he⟩⟩
theorem parse16_none {s : List UInt8} (h : valFrom anyVal 0 s = none) : parse16 s = none := by
  unfold parse16
  split
  · rfl
  · rw [h]
theorem parse16_great {s l : List UInt8} {c : UInt8} {acc d : Nat} (h : valFrom anyVal 0 s = valFrom anyVal acc (c :: l)) (hc : anyVal c = some d) (ha : 1152921504606846976 ≤ acc) : parse16 s = none := by
  unfold parse16
  split
  · rfl
  · rw [h]
    simp only [valFrom, hc]
    cases hv : valFrom anyVal (16 * acc + d) l with
    | none => rfl
    | some n =>
      have := valFrom_ge _ _ _ _ hv
      exact if_neg (by unfold M64; omega)
theorem parse16_bad {s l : List UInt8} {c : UInt8} {acc : Nat} (h : valFrom anyVal 0 s = valFrom anyVal acc (c :: l)) (hc : anyVal c = none) : parse16 s = none :=
  parse16_none (by rw [h]; simp only [valFrom, hc])
theorem valFrom_one {s l : List UInt8} {c : UInt8} {acc d : Nat} (h : valFrom anyVal 0 s = valFrom anyVal acc (c :: l)) (hc : anyVal c = some d) : valFrom anyVal 0 s = valFrom anyVal (16 * acc + d) l := by
  rw [h]; simp only [valFrom, hc]
theorem parse16_end {s : List UInt8} {acc : Nat} (hs : s ≠ []) (h : valFrom anyVal 0 s = some acc) (ha : acc < 18446744073709551616) : parse16 s = some acc := by
  unfold parse16
  rw [if_neg hs, h]
  exact if_pos (by unfold M64; omega)
set_option maxHeartbeats 32000000 in
set_option maxRecDepth 100000 in
theorem parseUint_16 (t : ByteArray) (hne : t.size ≠ 0) (hmax : t.size ≤ 140737488355328) (w : World) :
    Calls Tryd.prog 31 #[.string t, .int .i64 16, .int .i64 64] w (PU w t.data.toList) := by
  have hemp : t.toList.isEmpty = false := by
    rw [← decide_eq_emptyBytes]
    exact decide_eq_false (fun h => hne (by rw [h]; rfl))
  have hcv := Lib.run_convert_string_bytes (P := Tryd.prog) w 9 83 5 t (u := .string) Tryd.underlying9 Tryd.underlying83 Tryd.underlying5
  have hB : ∀ j, j < t.size → (Lib.bytesWorld w 5 t).cell? ⟨w.heap.size, j, none⟩ = some (.int .u8 (t.data.toList.getD j 0).toNat) := fun j hj => Lib.bytesWorld_cell w 5 t j hj
  have hX := Lib.bytesWorld_below w 5 t
  obtain ⟨W1, hW1⟩ : ∃ W1, W1 = Lib.bytesWorld w 5 t := ⟨_, rfl⟩
  rw [← hW1] at hcv hB hX
  have HX : Hid (Ext w W1) := Lib.hid hX
  clear hW1 hX
  obtain ⟨bs, hL⟩ : ∃ bs, bs = t.data.toList := ⟨_, rfl⟩
  have hLn : bs.length = t.size := by rw [hL, Lib.size_eq]
  rw [← hL] at hB ⊢
  have HNE : Hid (bs ≠ []) := Lib.hid (by rintro rfl; exact hne hLn.symm)
  clear hL
  have hmv : IntKind.u64.wrap (IntKind.u64.wrap 18446744073709551616 - 1) = 18446744073709551615 := by
    rw [IntKind.wrap_u64, IntKind.wrap_u64]
    decide
  go_enter Tryd.func31, Tryd.ntmps31
  go_wp2
  go_loop [12, 13, 101] (fun vu vn vi => ∃ (k acc : Nat) (a : Int), vu = .bool false ∧ vn = .int .u64 a ∧ vi = .int .i64 k ∧ k ≤ t.size ∧ Hid (a = (acc : Int) ∧ acc < 18446744073709551616 ∧ valFrom anyVal 0 bs = valFrom anyVal acc (bs.drop k)))
    (fun _ _ vi => t.size - (intOf vi).toNat)
  case atStart => exact ⟨0, 0, 0, rfl, rfl, rfl, by omega, rfl, by omega, rfl⟩
  case round =>
    obtain ⟨k, acc, a, rfl, rfl, rfl, hk, hh⟩ := hrel
    obtain ⟨ha, hacc, hdec⟩ := hh.out
    clear hh
    have a0 : 0 ≤ a := by omega
    have a1 : a < 18446744073709551616 := by omega
    by_cases hkn : k < t.size
    · have hc := hB k hkn
      have hdrop : bs.drop k = bs[k]'(by omega) :: bs.drop (k + 1) := List.drop_eq_getElem_cons (by omega)
      have hget : bs.getD k 0 = bs[k]'(by omega) := by simp [List.getD, List.getElem?_eq_getElem (show k < bs.length by omega)]
      rw [hdrop] at hdec
      rw [hget] at hc
      generalize bs[k]'(by omega) = c at hc hdec
      have hc256 : c.toNat < 256 := c.toNat_lt
      obtain ⟨lc, hlc⟩ : ∃ lc, lc = (c ||| 32).toNat := ⟨_, rfl⟩
      have hl256 : lc < 256 := by rw [hlc]; exact (c ||| 32).toNat_lt
      have HL : Hid (∀ w, Calls Tryd.prog 52 #[.int .u8 (c.toNat : Int)] w fun e w' => e = .returned (.int .u8 (lc : Int)) ∧ w = w') := Lib.hid (fun w => by rw [hlc]; exact lower_any c w)
      clear hB hdrop hget
      by_cases hdig : 48 ≤ c.toNat ∧ c.toNat ≤ 57
      · obtain ⟨hd0, hd1⟩ := hdig
        have hav : anyVal c = some (c.toNat - 48) := if_pos ⟨hd0, hd1⟩
        by_cases hcut : 1152921504606846976 ≤ acc
        · have HP := Lib.hid (parse16_great hdec hav hcut)
          have icut : 1152921504606846976 ≤ a := by omega
          clear hcut hacc ha hdec hav
          go_wp2
          go_ret2
          exact PU.no HX.out HP.out (.inl rfl) rfl
        · have HN : Hid (a * 16 + ((c.toNat : Int) - 48) = ((16 * acc + (c.toNat - 48) : Nat) : Int) ∧ 16 * acc + (c.toNat - 48) < 18446744073709551616 ∧ valFrom anyVal 0 bs = valFrom anyVal (16 * acc + (c.toNat - 48)) (bs.drop (k + 1))) := Lib.hid ⟨by omega, by omega, valFrom_one hdec hav⟩
          have icut : a < 1152921504606846976 := by omega
          have iov : a * 16 + ((c.toNat : Int) - 48) < 18446744073709551616 := by omega
          clear hcut hacc hdec ha hav
          go_wp2
          refine ⟨⟨k + 1, 16 * acc + (c.toNat - 48), a * 16 + ((c.toNat : Int) - 48), rfl, (by first | rfl | (congr 1; omega)), (by first | rfl | (congr 1; omega)), by omega, HN⟩, by simp [intOf]; omega⟩
      · have l95 : c.toNat = 95 → lc = 127 := fun h => by
          have : c = 95 := UInt8.toNat_inj.1 h
          rw [hlc, this]
          decide
        by_cases hlet : 97 ≤ lc ∧ lc ≤ 102
        · obtain ⟨hd0, hd1⟩ := hlet
          have hav : anyVal c = some (lc - 87) := by unfold anyVal; rw [if_neg hdig, ← hlc, if_pos ⟨hd0, hd1⟩]
          have n95 : ((c.toNat : Int) == 95) = false := by rw [beq_eq_false_iff_ne]; intro h; have := l95 (by omega); omega
          by_cases hcut : 1152921504606846976 ≤ acc
          · have HP := Lib.hid (parse16_great hdec hav hcut)
            have icut : 1152921504606846976 ≤ a := by omega
            clear hcut hacc ha hdec hav hlc l95
            go_wp2_with (go_at_call 52; (with_reducible refine (HL.out _).mono ?_); rintro e w1 ⟨rfl, rfl⟩)
            all_goals go_ret2
            all_goals exact PU.no HX.out HP.out (.inl rfl) rfl
          · have HN : Hid (a * 16 + ((lc : Int) - 97 + 10) = ((16 * acc + (lc - 87) : Nat) : Int) ∧ 16 * acc + (lc - 87) < 18446744073709551616 ∧ valFrom anyVal 0 bs = valFrom anyVal (16 * acc + (lc - 87)) (bs.drop (k + 1))) := Lib.hid ⟨by omega, by omega, valFrom_one hdec hav⟩
            have icut : a < 1152921504606846976 := by omega
            have iov : a * 16 + ((lc : Int) - 97 + 10) < 18446744073709551616 := by omega
            clear hcut hacc hdec ha hav hlc l95
            go_wp2_with (go_at_call 52; (with_reducible refine (HL.out _).mono ?_); rintro e w1 ⟨rfl, rfl⟩)
            all_goals refine ⟨⟨k + 1, 16 * acc + (lc - 87), a * 16 + ((lc : Int) - 97 + 10), rfl, (by first | rfl | (congr 1; omega)), (by first | rfl | (congr 1; omega)), by omega, HN⟩, by simp [intOf]; omega⟩
        · have hav : anyVal c = none := by unfold anyVal; rw [if_neg hdig, ← hlc, if_neg hlet]
          have HP := Lib.hid (parse16_bad hdec hav)
          clear hacc ha hdec hav
          by_cases h95 : c.toNat = 95
          · have e95 : (c.toNat : Int) = 95 := by omega
            have e127 := l95 h95
            rw [e95] at HL hc
            rw [e127] at HL
            clear hlc l95 hlet hdig h95 e95 e127 hl256
            go_wp2_with (go_at_call 52; (with_reducible refine (HL.out _).mono ?_); rintro e w1 ⟨rfl, rfl⟩)
            all_goals go_ret2
            all_goals exact PU.no HX.out HP.out (.inr rfl) rfl
          · have n95 : ((c.toNat : Int) == 95) = false := by rw [beq_eq_false_iff_ne]; intro h; exact h95 (by omega)
            clear hlc l95
            by_cases hg : 103 ≤ lc ∧ lc ≤ 122
            · obtain ⟨hg0, hg1⟩ := hg
              clear hlet
              go_wp2_with (go_at_call 52; (with_reducible refine (HL.out _).mono ?_); rintro e w1 ⟨rfl, rfl⟩)
              all_goals go_ret2
              all_goals exact PU.no HX.out HP.out (.inr rfl) rfl
            · have hno : lc < 97 ∨ 122 < lc := by omega
              clear hlet hg
              rcases hno with hno | hno
              all_goals
                go_wp2_with (go_at_call 52; (with_reducible refine (HL.out _).mono ?_); rintro e w1 ⟨rfl, rfl⟩)
                all_goals go_ret2
                all_goals exact PU.no HX.out HP.out (.inr rfl) rfl
    · have hkk : k = t.size := by omega
      subst hkk
      rw [List.drop_eq_nil_of_le (by omega)] at hdec
      have HP := Lib.hid (parse16_end HNE.out hdec hacc)
      subst ha
      clear hacc a0 a1 hdec
      go_wp2
      go_ret2
      exact PU.ok HX.out HP.out rfl
end Go.Proofs.YtmmaddmlfofgbaaDoor
