/- Manifests (layer 10): an edit's bytes. -/
import Derived.Test.YteplpgknnlehnaaMan3
import Derived.Test.YteplpgknnlehnaaBuilder
import Derived.Test.YteplpgknnlehnaaRegion
namespace Go.Proofs.Yteplpgknnlehnaa
set_option linter.unusedSimpArgs false
set_option linter.unusedVariables false
open Go.RowKit

theorem Row.of_box {w : World} {g : Nat} {t : TypeId} {cs : Array Value} (h : Box w g t cs) {sz n : Nat} {xs : List Value} (hx : cs.toList = xs) (hn : xs.length = n * sz) : Row w 0 w.heap.size sz (some ⟨g, 0, none⟩) n xs :=
  ⟨hn, fun _ => ⟨g, 0, rfl, Nat.zero_le _, h.lt, fun j u hu => by
    rw [Nat.zero_add, h.cell j]
    rw [← hx] at hu
    simpa using hu⟩⟩

theorem numbers_len (l : List Nat) (h : ∀ n ∈ l, n < M64) : (l.flatMap putUint).length ≤ 10 * l.length := by
  induction l with
  | nil => simp
  | cons a l ih =>
    have h1 := putUint_ten (h a (by simp))
    have h2 := ih (fun n hn => h n (by simp [hn]))
    rw [List.flatMap_cons, List.length_append, List.length_cons]
    omega

set_option maxRecDepth 100000 in
set_option maxHeartbeats 800000 in
theorem encode1_any (l : List Nat) (hl : l.length ≤ 1099511627776) (hok : ∀ n ∈ l, n < M64) (A : Option Addr) (c : Nat) (B b : Nat) (acc : List UInt8) (w : World) (hB : Bld w B b acc) (hBw : B ≤ w.heap.size) (ha : acc.length ≤ 1099511627776)
    (hr : ∀ w', Below B w w' → Oth w w' → Row w' 0 w'.heap.size 1 A l.length (l.flatMap u64C)) :
    Calls Try.prog 45 #[.slice A l.length c, .pointer (some ⟨b, 0, none⟩)] w fun e w' => e = .returned (.tuple #[]) ∧ Bld w' B b (acc ++ l.flatMap putUint) ∧ Below B w w' ∧ Oth w w' := by
  have HR := Lib.hid hr
  have HO := Lib.hid hok
  clear hr hok
  go_enter Try.func45, Try.ntmps45
  go_wp2
  go_loopw [7] (fun i wr => ∃ k : Nat, k ≤ l.length ∧ i = .int .i64 k ∧ Bld wr B b (acc ++ (l.take k).flatMap putUint) ∧ Below B w wr ∧ Oth w wr) (fun i _ => l.length - (intOf i).toNat)
  · exact ⟨0, by simp, rfl, by simpa using hB, Below.refl _ _, Oth.refl _⟩
  · clear hB
    obtain ⟨k, hk, rfl, hB, hE, hO⟩ := hrel
    have hZ := hE.size
    by_cases hlt : k < l.length
    · obtain ⟨t, ht⟩ : ∃ t, l[k]? = some t := ⟨l[k], List.getElem?_eq_getElem hlt⟩
      obtain ⟨bb, off, rfl, -, hbw, hc⟩ := (HR.out _ hE hO).elem u64C_len rfl ht
      have hc0 := hc 0 _ rfl
      rw [Nat.add_zero, Nat.mul_one] at hc0
      have ht64 := HO.out t (List.mem_of_getElem? ht)
      have hp := putUint_ten ht64
      have hpre := numbers_len (l.take k) (fun n hn => HO.out n (List.mem_of_mem_take hn))
      have HS : Hid ((acc ++ (l.take k).flatMap putUint) ++ putUint t = acc ++ (l.take (k + 1)).flatMap putUint) := by
        unfold Hid
        rw [List.take_add_one, ht]
        simp
      have hL : (acc ++ (l.take k).flatMap putUint).length ≤ 1099511627776 * 12 := by
        rw [List.length_append]
        rw [List.length_take] at hpre
        omega
      obtain ⟨ac, hac⟩ : ∃ ac, ac = acc ++ (l.take k).flatMap putUint := ⟨_, rfl⟩
      rw [← hac] at HS hL hB
      have HP := Lib.hid (fun w => putUint_any t ht64 w)
      clear hac hc ht hpre ht64
      go_wp2_with fail
      refine (HP.out _).mono ?_
      rintro e w1 ⟨rfl, hb1⟩
      have hB1 := hB.ext hb1
      have hz1 := hb1.size
      go_wp2_with fail
      refine (writeString_any B b ac _ _ hB1 (by omega) (by omega)).mono ?_
      rintro e w2 ⟨rfl, hB2, hb2, ho2⟩
      go_wp2
      exact ⟨⟨k + 1, by omega, by simp, by rw [← HS.out]; exact hB2, (Ext.from hE (by omega) hb1).trans hb2, (hO.trans (Oth.ext hb1)).trans ho2⟩, by simp [intOf]; omega⟩
    · go_wp2
      go_end0
      rw [List.take_of_length_le (by omega)] at hB
      exact ⟨rfl, hB, hE, hO⟩
end Go.Proofs.Yteplpgknnlehnaa
