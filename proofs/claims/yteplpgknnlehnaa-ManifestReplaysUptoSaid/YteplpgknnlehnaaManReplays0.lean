/- The walk of the statement ManifestReplays. -/
import Derived.Test.YteplpgknnlehnaaManRep3
import Derived.Test.YteplpgknnlehnaaSame
namespace Go.Proofs.Yteplpgknnlehnaa
set_option linter.unusedSimpArgs false
set_option linter.unusedVariables false
open Go.RowKit

set_option maxRecDepth 100000 in
set_option maxHeartbeats 800000 in
theorem manifestReplays_walk (l : List UInt8) (hl : l.length ≤ 1048576) (w : World) :
    Calls Try.prog 10 #[str l] w fun e w' => e = .returned (.bool true) ∧ Ext w w' := by
  have HP := Lib.hid (fun w => manReplay_any l hl w)
  have HQ := Lib.hid (fun w => manReplay_ref l hl w)
  go_enter Try.func10, Try.ntmps10
  go_wp2_with fail
  refine (HP.out _).mono ?_
  rintro _ w1 ⟨F1, fin1, p1, hf1, rfl, hla1, hb1, hX1⟩
  obtain ⟨⟨v, n, en, no⟩, hR⟩ : ∃ R, runMR fin1 (noLive, 0) F1 = R := ⟨_, rfl⟩
  rw [hR] at hla1 hb1 ⊢
  dsimp only [manVal, Live.cells] at *
  go_wp2_with fail
  (obtain ⟨w2, hw2⟩ : ∃ w2, w2 = World.alloc w1 (.cells #[.int .u64 v.next, .int .u64 v.seq, .int .u64 v.log, .slice (p1.A 0) (v.tab 0).length (p1.c 0), .slice (p1.A 1) (v.tab 1).length (p1.c 1), .slice (p1.A 2) (v.tab 2).length (p1.c 2), .slice (p1.A 3) (v.tab 3).length (p1.c 3)] 48) := ⟨_, rfl⟩); (have hbox_w2 : Box w2 (w1).heap.size 48 #[.int .u64 v.next, .int .u64 v.seq, .int .u64 v.log, .slice (p1.A 0) (v.tab 0).length (p1.c 0), .slice (p1.A 1) (v.tab 1).length (p1.c 1), .slice (p1.A 2) (v.tab 2).length (p1.c 2), .slice (p1.A 3) (v.tab 3).length (p1.c 3)] := by rw [hw2]; exact Box.new _ _ _); (have hE_w2 : Ext w1 w2 := by rw [hw2]; exact Ext.al _ _); (have hz_w2 : (w2).heap.size = (w1).heap.size + 1 := by rw [hw2]; simp); rw [← hw2]; clear hw2
  refine (HQ.out _).mono ?_
  rintro _ w3 ⟨F2, fin2, p2, hf2, rfl, hla2, -, hX3⟩
  obtain ⟨rfl, rfl⟩ := hf1.unique hf2
  rw [hR] at hla2 ⊢
  dsimp only [manVal, Live.cells] at *
  have bA := hbox_w2.ext hX3
  have hla1' := (hla1.ext hE_w2).ext hX3
  have hz := hX3.size
  have a0 := bA.cell 0
  have a1 := bA.cell 1
  have a2 := bA.cell 2
  have a3 := bA.cell 3
  have a4 := bA.cell 4
  have a5 := bA.cell 5
  have a6 := bA.cell 6
  simp only [List.getElem?_toArray, List.getElem?_cons_zero, List.getElem?_cons_succ] at a0 a1 a2 a3 a4 a5 a6
  have hw : w1.heap.size < w3.heap.size := by omega
  have hXa := (hX1.trans' hE_w2).trans' hX3
  clear hR hf1 hf2 hla1 hbox_w2 hE_w2 hX3
  go_wp2_with fail
  refine (sameLive_same v (fun j hj => by have := hb1 j hj; omega) p1 p2 _ (hla1'.ext (Ext.al _ _)) (hla2.ext (Ext.al _ _))).mono ?_
  rintro _ w4 ⟨rfl, hb4⟩
  go_wp2
  go_ret
  exact ⟨by simp, (hXa.trans' (Ext.al _ _)).trans' hb4⟩
end Go.Proofs.Yteplpgknnlehnaa
