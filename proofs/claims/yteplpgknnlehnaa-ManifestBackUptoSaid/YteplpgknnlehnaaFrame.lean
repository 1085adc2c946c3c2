/- Frames (layer 2): what the program and the reference both compute. -/
import Derived.Test.YteplpgknnlehnaaCodec
import Derived.Deep.RegionWith
import Derived.Handy
import Derived.Deep.RegionHeld3
import Derived.Deep.DeepCutAuto
namespace Go.Proofs.Yteplpgknnlehnaa
set_option linter.unusedSimpArgs false
set_option linter.unusedVariables false
open Go.RowKit

def crcBit (n : Int) : Int := if n % 2 = 1 then bits .xor .u32 (n / 2) 3988292384 else n / 2
def crcBits : Nat → Int → Int | 0, n => n | k + 1, n => crcBit (crcBits k n)
def crcByte (n : Int) (b : UInt8) : Int := crcBits 8 (bits .xor .u32 n (b.toNat : Int))
def crcOf (l : List UInt8) : Int := l.foldl crcByte 4294967295

def U32 (n : Int) : Prop := 0 ≤ n ∧ n ≤ 4294967295
theorem U32.bits (op : BinOp) (a b : Int) : U32 (bits op .u32 a b) := ⟨bits_lo_u32 op a b, bits_hi_u32 op a b⟩
theorem crcBit_ok {n : Int} (h : U32 n) : U32 (crcBit n) := by
  unfold crcBit
  split
  · exact U32.bits _ _ _
  · unfold U32 at *; omega
theorem crcBits_ok {n : Int} (h : U32 n) : ∀ k, U32 (crcBits k n)
  | 0 => h
  | k + 1 => crcBit_ok (crcBits_ok h k)
theorem crcByte_ok (n : Int) (b : UInt8) : U32 (crcByte n b) := crcBits_ok (U32.bits _ _ _) 8
theorem crcOf_snoc (l : List UInt8) (b : UInt8) : crcOf (l ++ [b]) = crcByte (crcOf l) b := by simp [crcOf]
theorem crcOf_ok (l : List UInt8) : U32 (crcOf l) := by
  rcases List.eq_nil_or_concat l with rfl | ⟨l', b, rfl⟩
  · exact ⟨by simp [crcOf], by simp [crcOf]⟩
  · rw [List.concat_eq_append, crcOf_snoc]; exact crcByte_ok _ _

theorem u32_and (a b : Nat) (ha : a < 4294967296) (hb : b < 4294967296) : bits .and .u32 (a : Int) (b : Int) = ((a &&& b : Nat) : Int) :=
  bits_nat .u32 32 (by decide) (fun n h1 h2 => IntWalk.u32_in n (by omega)) a b (by simpa using ha) (by simpa using hb) |>.1
theorem crc_step {n : Int} (h : U32 n) : bits .xor .u32 (n / 2) (bits .and .u32 3988292384 (-bits .and .u32 n 1 % 4294967296)) = crcBit n := by
  obtain ⟨m, rfl⟩ := Int.eq_ofNat_of_zero_le h.1
  have hm := h.2
  have h1 : bits .and .u32 (m : Int) 1 = ((m % 2 : Nat) : Int) := by
    have := u32_and m 1 (by omega) (by omega)
    rw [Nat.and_one_is_mod] at this
    exact this
  have hx0 : ∀ a : Nat, a < 4294967296 → bits .xor .u32 (a : Int) 0 = (a : Int) := by
    intro a ha
    show IntKind.u32.wrap (((BitVec.ofInt 32 (a : Int)) ^^^ (BitVec.ofInt 32 0)).toNat : Int) = _
    simp [BitVec.ofInt_natCast, IntKind.wrap_u32]
    omega
  rw [h1]
  unfold crcBit
  rcases Nat.mod_two_eq_zero_or_one m with h0 | h0
  · rw [h0, if_neg (by omega), show (-((0 : Nat) : Int) % 4294967296) = 0 by decide, show bits .and .u32 3988292384 0 = 0 by decide +kernel]
    have := hx0 (m / 2) (by omega)
    rw [show ((m : Int) / 2) = ((m / 2 : Nat) : Int) by omega]
    exact this
  · rw [h0, if_pos (by omega), show (-((1 : Nat) : Int) % 4294967296) = 4294967295 by decide, show bits .and .u32 3988292384 4294967295 = 3988292384 by decide +kernel]

/-- the check sum -/
def crc (l : List UInt8) : Int := bits .xor .u32 IntKind.u32.max (crcOf l)

theorem ba_get {l : List UInt8} {k : Nat} (h : k < l.length) : (⟨l.toArray⟩ : ByteArray)[k]'(by show k < l.toArray.size; simpa using h) = l[k] := rfl
theorem byte_mod (b : UInt8) : ((b.toNat : Int) % 4294967296) = (b.toNat : Int) := by have := b.toNat_lt; omega

theorem xor_byte (n : Int) (b : UInt8) : bits .xor .u32 n ((b.toNat : Int) % 4294967296) = bits .xor .u32 n (b.toNat : Int) := by rw [byte_mod]

theorem take_snoc {α : Type} {l : List α} {k : Nat} (h : k < l.length) : l.take (k + 1) = l.take k ++ [l[k]] := by
  rw [List.take_succ_eq_append_getElem h]

set_option maxRecDepth 100000 in
set_option maxHeartbeats 800000 in
theorem sum_any (l : List UInt8) (hl : l.length ≤ 1099511627776 * 2) (w : World) :
    Calls Try.prog 72 #[str l] w fun e w' => e = .returned (.int .u32 (crc l)) ∧ w = w' := by
  go_enter Try.func72, Try.ntmps72
  go_wp2
  go_loop [3, 7] (fun n i => ∃ k : Nat, k ≤ l.length ∧ i = .int .i64 k ∧ n = .int .u32 (crcOf (l.take k))) (fun _ i => l.length - (intOf i).toNat)
  · exact ⟨0, by simp, rfl, by simp [crcOf]⟩
  · obtain ⟨k, hk, rfl, rfl⟩ := hrel
    by_cases hlt : k < l.length
    · go_wp2
      go_loop [3, 16] (fun n i => ∃ j : Nat, j ≤ 8 ∧ i = .int .i64 j ∧ n = .int .u32 (crcBits j (bits .xor .u32 (crcOf (l.take k)) (l[k].toNat : Int)))) (fun _ i => 8 - (intOf i).toNat)
      · exact ⟨0, by simp, rfl, congrArg (Value.int .u32) (xor_byte _ l[k])⟩
      · obtain ⟨j, hj, rfl, rfl⟩ := hrel
        by_cases hj8 : j < 8
        · obtain ⟨n, hn⟩ : ∃ n, n = crcBits j (bits .xor .u32 (crcOf (l.take k)) (l[k].toNat : Int)) := ⟨_, rfl⟩
          have hb : U32 n := by rw [hn]; exact crcBits_ok (U32.bits _ _ _) j
          have hlo := hb.1
          have hhi := hb.2
          rw [← hn]
          have Hn := Lib.hid hn
          clear hn hb
          go_wp2
          exact ⟨⟨j + 1, by omega, by simp, by rw [crc_step ⟨hlo, hhi⟩, Hn.out]; rfl⟩, by simp [intOf]; omega⟩
        · go_wp2
          obtain rfl : j = 8 := by omega
          exact ⟨⟨k + 1, by omega, by simp, by rw [take_snoc hlt, crcOf_snoc]; rfl⟩, by simp [intOf]; omega⟩
    · go_wp2
      go_ret
      obtain rfl : k = l.length := by omega
      exact ⟨by rw [List.take_length] ; rfl, rfl⟩
set_option maxRecDepth 100000 in
set_option maxHeartbeats 800000 in
theorem sum_ref (l : List UInt8) (hl : l.length ≤ 1099511627776 * 2) (w : World) :
    Calls Try.prog 75 #[str l] w fun e w' => e = .returned (.int .u32 (crc l)) ∧ w = w' := by
  go_enter Try.func75, Try.ntmps75
  go_wp2
  go_loop [3, 4] (fun n i => ∃ k : Nat, k ≤ l.length ∧ i = .int .i64 k ∧ n = .int .u32 (crcOf (l.take k))) (fun _ i => l.length - (intOf i).toNat)
  · exact ⟨0, by simp, rfl, by simp [crcOf]⟩
  · obtain ⟨k, hk, rfl, rfl⟩ := hrel
    by_cases hlt : k < l.length
    · go_wp2
      go_loop [3, 5] (fun n i => ∃ j : Nat, j ≤ 8 ∧ i = .int .i64 j ∧ n = .int .u32 (crcBits j (bits .xor .u32 (crcOf (l.take k)) (l[k].toNat : Int)))) (fun _ i => 8 - (intOf i).toNat)
      · exact ⟨0, by simp, rfl, congrArg (Value.int .u32) (xor_byte _ l[k])⟩
      · obtain ⟨j, hj, rfl, rfl⟩ := hrel
        by_cases hj8 : j < 8
        · obtain ⟨n, hn⟩ : ∃ n, n = crcBits j (bits .xor .u32 (crcOf (l.take k)) (l[k].toNat : Int)) := ⟨_, rfl⟩
          have hb : U32 n := by rw [hn]; exact crcBits_ok (U32.bits _ _ _) j
          have hlo := hb.1
          have hhi := hb.2
          rw [← hn]
          have Hn := Lib.hid hn
          clear hn hb
          by_cases hp : n % 2 = 1
          · go_wp2
            exact ⟨⟨j + 1, by omega, by simp, by rw [crcBits, ← Hn.out, crcBit, if_pos hp]⟩, by simp [intOf]; omega⟩
          · go_wp2
            exact ⟨⟨j + 1, by omega, by simp, by rw [crcBits, ← Hn.out, crcBit, if_neg hp]⟩, by simp [intOf]; omega⟩
        · go_wp2
          obtain rfl : j = 8 := by omega
          exact ⟨⟨k + 1, by omega, by simp, by rw [take_snoc hlt, crcOf_snoc]; rfl⟩, by simp [intOf]; omega⟩
    · go_wp2
      go_ret
      obtain rfl : k = l.length := by omega
      exact ⟨by rw [List.take_length] ; rfl, rfl⟩

/-- four bytes, the lowest first -/
def little (n : Int) : List UInt8 := bytesIn [.int .u8 (n % 256), .int .u8 (n / 256 % 256), .int .u8 (n / 65536 % 256), .int .u8 (n / 16777216)]

set_option maxRecDepth 100000 in
set_option maxHeartbeats 800000 in
theorem little_any (n : Int) (h0 : 0 ≤ n) (h1 : n ≤ 4294967295) (w : World) :
    Calls Try.prog 71 #[.int .u32 n] w fun e w' => e = .returned (str (little n)) ∧ Ext w w' := by
  have hcv := run_string_new (P := Try.prog) Try.underlying75 Try.underlying5 Try.underlying9
  go_enter Try.func71, Try.ntmps71
  go_wp2
  go_ret
  exact ⟨rfl, (Below.refl _ _).alloc (Nat.le_refl _) _⟩
set_option maxRecDepth 100000 in
set_option maxHeartbeats 800000 in
theorem little_ref (n : Int) (h0 : 0 ≤ n) (h1 : n ≤ 4294967295) (w : World) :
    Calls Try.prog 74 #[.int .u32 n] w fun e w' => e = .returned (str (little n)) ∧ Ext w w' := by
  have hcv := run_string_new (P := Try.prog) Try.underlying75 Try.underlying5 Try.underlying9
  have hmk : ∀ w, (Instr.makeSlice 75 (.int .i64 4) (.int .i64 4)).run Try.prog w = .ok (.slice (some ⟨w.heap.size, 0, none⟩) 4 4) (w.alloc (.cells #[.int .u8 0, .int .u8 0, .int .u8 0, .int .u8 0] 5)) := fun _ => by kernel_rfl
  go_enter Try.func74, Try.ntmps74
  go_wp2
  go_rounds 5
  go_ret
  have e : str (bytesIn [.int .u8 (n % 256), .int .u8 (n / 256 % 256), .int .u8 (n / 256 / 256 % 256), .int .u8 (n / 256 / 256 / 256 % 256)]) = str (little n) := by
    rw [little, show n / 256 / 256 = n / 65536 by omega, show n / 65536 / 256 % 256 = n / 16777216 by omega]
  exact ⟨congrArg Ending.returned e, (Below.refl _ _).alloc (Nat.le_refl _) _⟩

/-- a frame as bytes -/
def frameRest (kind : UInt8) (load : List UInt8) : List UInt8 := kind :: putText load
def frameBytes (kind : UInt8) (load : List UInt8) : List UInt8 := little (crc (frameRest kind load)) ++ frameRest kind load
theorem frameRest_length (kind : UInt8) (l : List UInt8) (hl : l.length ≤ 1099511627776) : (frameRest kind l).length ≤ 1099511627776 + 11 := by
  have := putText_length hl
  simp [frameRest]; omega
theorem little_length (n : Int) : (little n).length = 4 := rfl
theorem crc_ok (l : List UInt8) : U32 (crc l) := U32.bits _ _ _
/-- Put's answer -/
def putFrame (kind : UInt8) (load : List UInt8) : List UInt8 × Int := if kind = 0 ∨ 262144 < load.length then ([], 1) else (frameBytes kind load, 0)

set_option maxRecDepth 100000 in
set_option maxHeartbeats 800000 in
theorem framePut_any (kind : UInt8) (l : List UInt8) (hl : l.length ≤ 1099511627776) (w : World) :
    Calls Try.prog 40 #[.agg #[.int .u8 (kind.toNat : Int), str l]] w fun e w' => e = .returned (.tuple #[str (putFrame kind l).1, .int .i64 (putFrame kind l).2]) ∧ Ext w w' := by
  have hcv := run_string_new (P := Try.prog) Try.underlying75 Try.underlying5 Try.underlying9
  by_cases hk : kind = 0
  · subst hk
    go_enter Try.func40, Try.ntmps40
    go_wp2
    go_ret2
    exact ⟨by simp [putFrame], (Below.refl _ _).alloc (Nat.le_refl _) _⟩
  · have hk0 : ((kind.toNat : Int) == 0) = false := by
      simp only [beq_eq_false_iff_ne, ne_eq]
      intro h
      exact hk (UInt8.toNat_inj.1 (by simpa using h))
    by_cases hb : 262144 < l.length
    · go_enter Try.func40, Try.ntmps40
      go_wp2
      go_ret2
      exact ⟨by simp [putFrame, hb], (Below.refl _ _).alloc (Nat.le_refl _) _⟩
    · go_enter Try.func40, Try.ntmps40
      have hrest : str (frameRest kind l) = str (bytesIn [.int .u8 (kind.toNat : Int)] ++ putText l) := by simp [frameRest, bytesIn]
      have hput : putFrame kind l = (frameBytes kind l, 0) := by rw [putFrame, if_neg (by simp [hk]; omega)]
      have HR := Lib.hid hrest
      have HP := Lib.hid hput
      clear hrest hput
      have hpl := putText_length hl
      have hbl := bytesIn_length
      have hcd := run_string_new_drew (P := Try.prog) Try.underlying75 Try.underlying5 Try.underlying9
      go_wp2_with fail
      go_cut [4] (fun v wc => v = str (frameRest kind l) ∧ Ext w wc)
      case first =>
        go_region_with (go_at_call 48; refine (putText_any l hl _).mono ?_; rintro e w1 ⟨rfl, hb1⟩; (first | (have hcx := Box.string (P := Try.prog) Try.underlying75 Try.underlying5 Try.underlying9 (cs := [.int .u8 (kind.toNat : Int)]) (Box.ext (g := w.heap.size + 1) (t := 5) (Box.new_drew _ _ _ _ (by simp)) hb1) (by simp) 1 1 rfl) | skip); obtain ⟨hc1, _⟩ := bcell hb1; have hz1 := hb1.size; simp at hz1)
        all_goals (go_wp2_with fail; go_meet; exact ⟨by rw [HR.out, ByteArray.mk_append_mk], by (repeat (first | exact Below.refl _ _ | refine Ext.trans' ?_ (Ext.al _ _) | refine Ext.trans' ?_ (Ext.dr _) | refine Ext.trans' ?_ (by assumption)))⟩)
      case rest =>
        obtain ⟨rfl, hb1⟩ := hcut
        have hfl := frameRest_length kind l hl
        obtain ⟨hs0, hs1⟩ := crc_ok (frameRest kind l)
        have hll := little_length
        go_wp2_with (first
          | (go_at_call 72; refine (sum_any (frameRest kind l) (by omega) _).mono ?_; rintro e w1 ⟨rfl, rfl⟩)
          | (go_at_call 71; refine (little_any (crc (frameRest kind l)) hs0 hs1 _).mono ?_; rintro e w1 ⟨rfl, hb2⟩))
        go_ret2
        exact ⟨by rw [HP.out]; simp [ByteArray.mk_append_mk, frameBytes], by (repeat (first | exact Below.refl _ _ | refine Ext.trans' ?_ (Ext.al _ _) | refine Ext.trans' ?_ (Ext.dr _) | refine Ext.trans' ?_ (by assumption)))⟩
set_option maxRecDepth 100000 in
set_option maxHeartbeats 800000 in
theorem framePut_ref (kind : UInt8) (l : List UInt8) (hl : l.length ≤ 1099511627776) (w : World) :
    Calls Try.prog 43 #[.agg #[.int .u8 (kind.toNat : Int), str l]] w fun e w' => e = .returned (.tuple #[str (putFrame kind l).1, .int .i64 (putFrame kind l).2]) ∧ Ext w w' := by
  have hcv := run_string_new (P := Try.prog) Try.underlying75 Try.underlying5 Try.underlying9
  by_cases hk : kind = 0
  · subst hk
    go_enter Try.func43, Try.ntmps43
    go_wp2
    go_ret2
    exact ⟨by simp [putFrame], (Below.refl _ _).alloc (Nat.le_refl _) _⟩
  · have hk0 : ((kind.toNat : Int) == 0) = false := by
      simp only [beq_eq_false_iff_ne, ne_eq]
      intro h
      exact hk (UInt8.toNat_inj.1 (by simpa using h))
    by_cases hb : 262144 < l.length
    · go_enter Try.func43, Try.ntmps43
      go_wp2
      go_ret2
      exact ⟨by simp [putFrame, hb], (Below.refl _ _).alloc (Nat.le_refl _) _⟩
    · go_enter Try.func43, Try.ntmps43
      have hrest : str (frameRest kind l) = str (bytesIn [.int .u8 (kind.toNat : Int)] ++ putText l) := by simp [frameRest, bytesIn]
      have hput : putFrame kind l = (frameBytes kind l, 0) := by rw [putFrame, if_neg (by simp [hk]; omega)]
      have HR := Lib.hid hrest
      have HP := Lib.hid hput
      clear hrest hput
      have hpl := putText_length hl
      have hbl := bytesIn_length
      have hcd := run_string_new_drew (P := Try.prog) Try.underlying75 Try.underlying5 Try.underlying9
      go_wp2_with fail
      go_cut [4] (fun v wc => v = str (frameRest kind l) ∧ Ext w wc)
      case first =>
        go_region_with (go_at_call 52; refine (putText_ref l hl _).mono ?_; rintro e w1 ⟨rfl, hb1⟩; (first | (have hcx := Box.string (P := Try.prog) Try.underlying75 Try.underlying5 Try.underlying9 (cs := [.int .u8 (kind.toNat : Int)]) (Box.ext (g := w.heap.size + 1) (t := 5) (Box.new_drew _ _ _ _ (by simp)) hb1) (by simp) 1 1 rfl) | skip); obtain ⟨hc1, _⟩ := bcell hb1; have hz1 := hb1.size; simp at hz1)
        all_goals (go_wp2_with fail; go_meet; exact ⟨by rw [HR.out, ByteArray.mk_append_mk], by (repeat (first | exact Below.refl _ _ | refine Ext.trans' ?_ (Ext.al _ _) | refine Ext.trans' ?_ (Ext.dr _) | refine Ext.trans' ?_ (by assumption)))⟩)
      case rest =>
        obtain ⟨rfl, hb1⟩ := hcut
        have hfl := frameRest_length kind l hl
        obtain ⟨hs0, hs1⟩ := crc_ok (frameRest kind l)
        have hll := little_length
        go_wp2_with (first
          | (go_at_call 75; refine (sum_ref (frameRest kind l) (by omega) _).mono ?_; rintro e w1 ⟨rfl, rfl⟩)
          | (go_at_call 74; refine (little_ref (crc (frameRest kind l)) hs0 hs1 _).mono ?_; rintro e w1 ⟨rfl, hb2⟩))
        go_ret2
        exact ⟨by rw [HP.out]; simp [ByteArray.mk_append_mk, frameBytes], by (repeat (first | exact Below.refl _ _ | refine Ext.trans' ?_ (Ext.al _ _) | refine Ext.trans' ?_ (Ext.dr _) | refine Ext.trans' ?_ (by assumption)))⟩
end Go.Proofs.Yteplpgknnlehnaa
