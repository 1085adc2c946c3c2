/- The walk of the statement WalDecodes. -/
import Derived.Test.YteplpgknnlehnaaWalDec3
namespace Go.Proofs.Yteplpgknnlehnaa
set_option linter.unusedSimpArgs false
set_option linter.unusedVariables false
open Go.RowKit

theorem decodeBatch_lens (l : List UInt8) : (decodeBatch l).1.puts.length ≤ 256 := by
  unfold decodeBatch batchEnd
  split
  · simp [noBatch]
  · rename_i h
    simp at h
    exact (wcheck_parts h.2.1).1

set_option maxRecDepth 100000 in
set_option maxHeartbeats 800000 in
theorem walDecodes_walk (l : List UInt8) (hl : l.length ≤ 1048576) (w : World) :
    Calls Try.prog 6 #[str l] w fun e w' => e = .returned (.bool true) ∧ Ext w w' := by
  have HP := Lib.hid (fun w => decodeBatch_any l (by omega) w)
  have HQ := Lib.hid (fun w => decodeBatch_ref l (by omega) w)
  have k1 := decodeBatch_lens l
  have HS := Lib.hid (fun A1 A2 c1 c2 w hr1 hr2 => samePuts_any (decodeBatch l).1.puts (decodeBatch l).1.puts (by omega) (by omega) A1 A2 c1 c2 w hr1 hr2)
  rw [decide_eq_true (rfl : (decodeBatch l).1.puts = (decodeBatch l).1.puts)] at HS
  obtain ⟨r, hr⟩ : ∃ r, decodeBatch l = r := ⟨_, rfl⟩
  rw [hr] at HP HQ HS
  clear k1 hr
  obtain ⟨⟨sq, xs⟩, no⟩ := r
  dsimp only at HS
  go_enter Try.func6, Try.ntmps6
  go_wp2_with fail
  refine (HP.out _).mono ?_
  rintro _ w1 ⟨A1, c1, rfl, hr1, hb1⟩
  dsimp only at *
  have hr1 := hr1.wide (lo' := 0) (Nat.zero_le _) (Nat.le_refl _)
  go_wp2_with fail
  (obtain ⟨w2, hw2⟩ : ∃ w2, w2 = World.alloc w1 (.cells #[.int .u64 sq, .slice A1 xs.length c1] 25) := ⟨_, rfl⟩); (have hbox_w2 : Box w2 (w1).heap.size 25 #[.int .u64 sq, .slice A1 xs.length c1] := by rw [hw2]; exact Box.new _ _ _); (have hE_w2 : Ext w1 w2 := by rw [hw2]; exact Ext.al _ _); (have hz_w2 : (w2).heap.size = (w1).heap.size + 1 := by rw [hw2]; simp); rw [← hw2]; clear hw2
  refine (HQ.out _).mono ?_
  rintro _ w3 ⟨A2, c2, rfl, hr2, hb2⟩
  dsimp only at *
  have hr2 := hr2.wide (lo' := 0) (Nat.zero_le _) (Nat.le_refl _)
  have bx := hbox_w2.ext hb2
  have x0 := bx.cell 0
  have x1 := bx.cell 1
  simp at x0 x1
  have hz : w1.heap.size < w3.heap.size := by have := hb2.size; omega
  have by3 := Box.new w3 25 #[.int .u64 sq, .slice A2 xs.length c2]
  have hq1 := (hr1.below (hE_w2.trans' (hb2.trans' (Ext.al w3 (.cells #[.int .u64 sq, .slice A2 xs.length c2] 25)))) (Nat.le_refl _)).wide (Nat.le_refl _) (hE_w2.trans' (hb2.trans' (Ext.al w3 (.cells #[.int .u64 sq, .slice A2 xs.length c2] 25)))).size
  have hq2 := (hr2.below (Ext.al w3 (.cells #[.int .u64 sq, .slice A2 xs.length c2] 25)) (Nat.le_refl _)).wide (Nat.le_refl _) (Ext.al w3 (.cells #[.int .u64 sq, .slice A2 xs.length c2] 25)).size
  go_wp2_with fail
  refine (HS.out _ _ _ _ _ hq1 hq2).mono ?_
  rintro _ w5 ⟨rfl, hb5⟩
  have bx5 := (bx.alloc (.cells #[.int .u64 sq, .slice A2 xs.length c2] 25)).ext hb5
  have by5 := by3.ext hb5
  clear x0 x1
  have x0 := bx5.cell 0
  have y0 := by5.cell 0
  simp at x0 y0
  go_wp2
  go_ret
  exact ⟨by simp, by (repeat (first | exact Below.refl _ _ | refine Ext.trans' ?_ (Ext.al _ _) | refine Ext.trans' ?_ (Ext.dr _) | refine Ext.trans' ?_ (by assumption)))⟩
end Go.Proofs.Yteplpgknnlehnaa
