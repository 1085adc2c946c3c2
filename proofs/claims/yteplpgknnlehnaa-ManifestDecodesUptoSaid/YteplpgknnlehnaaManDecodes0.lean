/- The walk of the statement ManifestDecodes. -/
import Derived.Test.YteplpgknnlehnaaManDec3
namespace Go.Proofs.Yteplpgknnlehnaa
set_option linter.unusedSimpArgs false
set_option linter.unusedVariables false
open Go.RowKit

theorem decodeEdit_lens (l : List UInt8) : (decodeEdit l).1.add.length ≤ 1048576 ∧ (decodeEdit l).1.drop.length ≤ 1048576 := by
  unfold decodeEdit editEnd
  split
  · simp [noEdit]
  · rename_i h
    simp at h
    have := h.1.2
    simp [Edit.may] at this
    have h1 := this.1
    dsimp only
    omega

set_option maxRecDepth 100000 in
set_option maxHeartbeats 800000 in
theorem manifestDecodes_walk (l : List UInt8) (hl : l.length ≤ 1048576) (w : World) :
    Calls Try.prog 5 #[str l] w fun e w' => e = .returned (.bool true) ∧ Ext w w' := by
  have HP := Lib.hid (fun w => decodeEdit_any l (by omega) w)
  have HQ := Lib.hid (fun w => decodeEdit_ref l (by omega) w)
  obtain ⟨k1, k2⟩ := decodeEdit_lens l
  have HS := Lib.hid (fun A1 A1' A2 A2' c1 c1' c2 c2' w hr1 hr2 => sameEdit_any (decodeEdit l).1 (decodeEdit l).1 k1 k1 k2 k2 A1 A1' A2 A2' c1 c1' c2 c2' w hr1 hr2)
  rw [decide_eq_true (rfl : (decodeEdit l).1 = (decodeEdit l).1)] at HS
  obtain ⟨r, hr⟩ : ∃ r, decodeEdit l = r := ⟨_, rfl⟩
  rw [hr] at HP HQ HS
  clear k1 k2 hr
  obtain ⟨⟨n, s, g, xs, ds⟩, no⟩ := r
  dsimp only at HS
  go_enter Try.func5, Try.ntmps5
  go_wp2_with fail
  refine (HP.out _).mono ?_
  rintro _ w1 ⟨A1, A1', c1, c1', rfl, hat1, hb1⟩
  dsimp only [pairVal, Edit.val] at *
  go_wp2_with fail
  (obtain ⟨w2, hw2⟩ : ∃ w2, w2 = World.alloc w1 (.cells #[.int .u64 n, .int .u64 s, .int .u64 g, .slice A1 xs.length c1, .slice A1' ds.length c1'] 35) := ⟨_, rfl⟩); (have hbox_w2 : Box w2 (w1).heap.size 35 #[.int .u64 n, .int .u64 s, .int .u64 g, .slice A1 xs.length c1, .slice A1' ds.length c1'] := by rw [hw2]; exact Box.new _ _ _); (have hE_w2 : Ext w1 w2 := by rw [hw2]; exact Ext.al _ _); (have hz_w2 : (w2).heap.size = (w1).heap.size + 1 := by rw [hw2]; simp); rw [← hw2]; clear hw2
  refine (HQ.out _).mono ?_
  rintro _ w3 ⟨A2, A2', c2, c2', rfl, hat2, hb2⟩
  dsimp only [pairVal, Edit.val] at *
  have bx := hbox_w2.ext hb2
  have x0 := bx.cell 0
  have x1 := bx.cell 1
  have x2 := bx.cell 2
  have x3 := bx.cell 3
  have x4 := bx.cell 4
  simp at x0 x1 x2 x3 x4
  have hz : w1.heap.size < w3.heap.size := by have := hb2.size; omega
  go_wp2_with fail
  refine (HS.out _ _ _ _ _ _ _ _ _ ((hat1.ext hE_w2).ext hb2 |>.ext (Ext.al _ _)) (hat2.ext (Ext.al _ _))).mono ?_
  rintro _ w5 ⟨rfl, hb5⟩
  go_wp2
  go_ret
  exact ⟨by simp, by (repeat (first | exact Below.refl _ _ | refine Ext.trans' ?_ (Ext.al _ _) | refine Ext.trans' ?_ (Ext.dr _) | refine Ext.trans' ?_ (by assumption)))⟩
end Go.Proofs.Yteplpgknnlehnaa
