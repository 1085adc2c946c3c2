/- What an edit makes of the tables that live (layer 10): the program's walk. -/
import Derived.Test.YteplpgknnlehnaaLive
import Derived.BigFrame
import Derived.BigGuardPart
namespace Go.Proofs.Yteplpgknnlehnaa
set_option linter.unusedSimpArgs false
set_option linter.unusedVariables false
open Go.RowKit

theorem zero_bool (w : World) : (zeroValue 4).run Try.prog w = .ok (.bool false) w := by kernel_rfl
set_option maxRecDepth 100000 in
set_option maxHeartbeats 6000000 in
theorem apply_any (v : Live) (p : Place) (e : Edit) (hok : e.Ok) (hl : ∀ k, k < 4 → (v.tab k).length ≤ 549755813888) (hnum : ∀ x ∈ numsOf v, x < M64) (A A' : Option Addr) (c c' : Nat) (w : World) (hat : EditAt w w.heap.size e A A') (hlat : LiveAt w v p) :
    Calls Try.prog 25 #[.agg (v.cells p), e.val A A' c c'] w (LivePost (applyWith putProg v e) w) := by
  have HL := Lib.hid (fun w' (hb : Ext w w') => hlat.ext hb)
  have HE := Lib.hid (fun w' (hb : Ext w w') => hat.ext hb)
  have HMAY := Lib.hid (fun w' (hb : Ext w w') => editMay_any e hok A A' c c' w' (hat.ext hb))
  have HLEN := Lib.hid hl
  have HNUM := Lib.hid hnum
  have hal := hok.addLen
  have hdl := hok.dropLen
  have HOK := Lib.hid hok
  have HAP : Hid (∀ r, r = applyWith putProg v e → LivePost (applyWith putProg v e) = LivePost r) := fun r hr => by rw [hr]
  clear hl hnum hat hlat hok
  have hmm := @run_makeMap Try.prog
  have hlss := @run_lss_str Try.prog
  go_enter Try.func25, Try.ntmps25
  dsimp only [Edit.val]
  go_wp2_with fail
  obtain ⟨S, hS⟩ : ∃ S, w.heap.size = S := ⟨_, rfl⟩
  (obtain ⟨w0, hw0⟩ : ∃ w0, w0 = World.alloc w (.cells (v.cells p) 48) := ⟨_, rfl⟩); (have hbox_w0 : Box w0 (w).heap.size 48 (v.cells p) := by rw [hw0]; exact Box.new _ _ _); (have hE_w0 : Ext w w0 := by rw [hw0]; exact Ext.al _ _); (have hz_w0 : (w0).heap.size = (w).heap.size + 1 := by rw [hw0]; simp); rw [← hw0]; clear hw0
  (obtain ⟨w1, hw1⟩ : ∃ w1, w1 = World.alloc w0 (.cells #[.int .u64 e.next, .int .u64 e.seq, .int .u64 e.log, .slice A e.add.length c, .slice A' e.drop.length c'] 35) := ⟨_, rfl⟩); (have hbox_w1 : Box w1 (w0).heap.size 35 #[.int .u64 e.next, .int .u64 e.seq, .int .u64 e.log, .slice A e.add.length c, .slice A' e.drop.length c'] := by rw [hw1]; exact Box.new _ _ _); (have hE_w1 : Ext w0 w1 := by rw [hw1]; exact Ext.al _ _); (have hz_w1 : (w1).heap.size = (w0).heap.size + 1 := by rw [hw1]; simp); rw [← hw1]; clear hw1
  (obtain ⟨w2, hw2⟩ : ∃ w2, w2 = World.alloc w1 (.cells #[.int .u64 0, .int .u64 0, .int .u64 0, .slice none 0 0, .slice none 0 0, .slice none 0 0, .slice none 0 0] 48) := ⟨_, rfl⟩); (have hbox_w2 : Box w2 (w1).heap.size 48 #[.int .u64 0, .int .u64 0, .int .u64 0, .slice none 0 0, .slice none 0 0, .slice none 0 0, .slice none 0 0] := by rw [hw2]; exact Box.new _ _ _); (have hE_w2 : Ext w1 w2 := by rw [hw2]; exact Ext.al _ _); (have hz_w2 : (w2).heap.size = (w1).heap.size + 1 := by rw [hw2]; simp); rw [← hw2]; clear hw2
  have bS2 := (hbox_w0.ext hE_w1).ext hE_w2
  have bE2 := hbox_w1.ext hE_w2
  have hX2 := (hE_w0.trans' hE_w1).trans' hE_w2
  have bR2 := hbox_w2
  have hM2 : w2.heap.size = S + 3 := by omega
  rw [hz_w1, hz_w0, hS] at bR2
  rw [hz_w0, hS] at bE2
  rw [hS] at bS2 ⊢
  clear hbox_w0 hbox_w1 hbox_w2 hE_w0 hE_w1 hE_w2 hz_w0 hz_w1 hz_w2
  refine (HMAY.out w2 hX2).mono ?_
  rintro _ w3 ⟨rfl, hb3⟩
  have bS3 := bS2.ext hb3
  have bE3 := bE2.ext hb3
  have bR3 := bR2.ext hb3
  have hX3 := hX2.trans' hb3
  have hz3 := hb3.size
  clear bS2 bE2 bR2 hX2 hb3 HMAY
  cases hm : e.may with
  | false =>
    have HZ := Lib.hid (HAP.out (noLive, 1) (by simp [applyWith, hm]))
    clear HAP hm
    have r0 := bR3.cell 0
    have r1 := bR3.cell 1
    have r2 := bR3.cell 2
    have r3 := bR3.cell 3
    have r4 := bR3.cell 4
    have r5 := bR3.cell 5
    have r6 := bR3.cell 6
    have rf := bR3.frozen
    simp only [List.getElem?_toArray, List.getElem?_cons_zero, List.getElem?_cons_succ] at r0 r1 r2 r3 r4 r5 r6
    (try dsimp only); (repeat (first | go_values | go_skip | go_guarded | go_step | go_upon)); (try simp only [Exit.inBlock, Exit.then])
    (try simp only [Exit.inBlock, Exit.then])
    refine live_ret (v := noLive) (p := noPlace) rfl rfl rfl rfl (bR3.put7 _ _ _ _ _ _ _) ?_
    rw [HZ.out]
    exact LivePost.mk (LiveAt.none_ _) (Below.put7 hX3 (by omega) _ _ _ _ _ _ _)
  | true =>
    have x0 := bS3.cell 0
    have x1 := bS3.cell 1
    have x2 := bS3.cell 2
    have x3 := bS3.cell 3
    have x4 := bS3.cell 4
    have x5 := bS3.cell 5
    have x6 := bS3.cell 6
    have y0 := bE3.cell 0
    have y1 := bE3.cell 1
    have y2 := bE3.cell 2
    have y3 := bE3.cell 3
    have y4 := bE3.cell 4
    have r0 := bR3.cell 0
    have r1 := bR3.cell 1
    have r2 := bR3.cell 2
    have r3 := bR3.cell 3
    have r4 := bR3.cell 4
    have r5 := bR3.cell 5
    have r6 := bR3.cell 6
    have rf := bR3.frozen
    simp only [Live.cells, List.getElem?_toArray, List.getElem?_cons_zero, List.getElem?_cons_succ] at x0 x1 x2 x3 x4 x5 x6 y0 y1 y2 y3 y4 r0 r1 r2 r3 r4 r5 r6
    by_cases hlow : e.next < v.next ∨ e.seq < v.seq ∨ e.log < v.log
    · have HZ := Lib.hid (HAP.out (noLive, 3) (by simp [applyWith, hm, hlow]))
      clear HAP hm
      have hc : (e.next < v.next ∨ ¬ e.next < v.next ∧ e.seq < v.seq) ∨ (¬ e.next < v.next ∧ ¬ e.seq < v.seq) ∧ e.log < v.log := by omega
      clear hlow
      rcases hc with (h1 | ⟨h1, h2⟩) | ⟨⟨h1, h2⟩, h3⟩
      all_goals
        (try dsimp only); (repeat (first | go_values | go_skip | go_guarded | go_step | go_upon)); (try simp only [Exit.inBlock, Exit.then])
        (try simp only [Exit.inBlock, Exit.then])
        refine live_ret (v := noLive) (p := noPlace) rfl rfl rfl rfl (bR3.put7 _ _ _ _ _ _ _) ?_
        rw [HZ.out]
        exact LivePost.mk (LiveAt.none_ _) (Below.put7 hX3 (by omega) _ _ _ _ _ _ _)
    · have h1 : ¬ e.next < v.next := by omega
      have h2 : ¬ e.seq < v.seq := by omega
      have h3 : ¬ e.log < v.log := by omega
      obtain ⟨M, hM⟩ : ∃ M, w3.heap.size = M := ⟨_, rfl⟩
      obtain ⟨w4, hw4⟩ : ∃ w4, w3.alloc (.map #[] 0) = w4 := ⟨_, rfl⟩
      have hSM : S + 3 ≤ M := by omega
      have bM4 : BSet Try.prog 22 4 w4 M 0 (fun _ => false) := by rw [← hw4, ← hM]; exact BSet.made w3
      have hE4 : Ext w3 w4 := by rw [← hw4]; exact Ext.al _ _
      have hX4 := hX3.trans' hE4
      have bS4 := bS3.ext hE4
      have bE4 := bE3.ext hE4
      have bR4 := bR3.ext hE4
      have z3 := bS4.cell 3
      have z4 := bS4.cell 4
      have z5 := bS4.cell 5
      have z6 := bS4.cell 6
      simp only [Live.cells, List.getElem?_toArray, List.getElem?_cons_zero, List.getElem?_cons_succ] at z3 z4 z5 z6
      have HW4 := Lib.hid hw4
      clear bS3 bE3 bR3 hX3 hE4 x3 x4 x5 x6 y3 y4 r0 r1 r2 r3 r4 r5 r6 rf hz3
      go_wp2_with fail
      clear z3 z4 z5 z6 x0 x1 x2 y0 y1 y2 h1 h2 h3 hw4
      have hXF : ∀ wr, Fr (fun b => b ≠ M) w4 wr → Ext w wr := fun wr h => Fr.ext ((Fr.of_ext (S := fun x => x < S) hX4).step h (by omega)) (by omega)
      have HM := Lib.hid hm
      clear hm
      go_loopw [51] (fun i wr => ∃ k n : Nat, k ≤ 4 ∧ i = .int .i64 k ∧ n ≤ k * 549755813888 ∧ BSet Try.prog 22 4 wr M n (fun x => decide (x ∈ numsTo v k)) ∧ Fr (fun b => b ≠ M) w4 wr) (fun i _ => 4 - (intOf i).toNat)
      · exact ⟨0, 0, by omega, rfl, Nat.zero_le _, bM4.congr (fun x => by simp [numsTo]), Fr.refl _⟩
      · obtain ⟨k, n, hk, rfl, hn, hB, hC⟩ := hrel
        by_cases hlt : k < 4
        · have hidx := fun w => v.index p w hlt
          have hlk := HLEN.out k hlt
          go_wp2_with fail
          have hd : decide ((k : Int) < 4) = true := by simp; omega
          rw [hd]
          clear hd
          go_loopw [56] (fun i wr => ∃ j n : Nat, j ≤ (v.tab k).length ∧ i = .int .i64 j ∧ n ≤ k * 549755813888 + j ∧ BSet Try.prog 22 4 wr M n (fun x => decide (x ∈ numsTo v k ++ ((v.tab k).take j).map Table.num)) ∧ Fr (fun b => b ≠ M) w4 wr) (fun i _ => (v.tab k).length - (intOf i).toNat)
          · exact ⟨0, n, by omega, rfl, Nat.le_trans hn (Nat.le_add_right _ _), hB.congr (fun x => by rw [List.take_zero, List.map_nil, List.append_nil]), hC⟩
          · clear hB hC hn
            obtain ⟨j, n, hj, rfl, hn, hB, hC⟩ := hrel
            by_cases hlj : j < (v.tab k).length
            · obtain ⟨t, ht⟩ : ∃ t, (v.tab k)[j]? = some t := ⟨_, List.getElem?_eq_getElem hlj⟩
              obtain ⟨b, off, hA, -, hbw, hc⟩ := (HL.out _ (hXF _ hC) k hlt).elem Table.cells_len rfl ht
              have c0 := hc 0 _ rfl
              have c1 := hc 1 _ rfl
              have c2 := hc 2 _ rfl
              have c3 := hc 3 _ rfl
              have c4 := hc 4 _ rfl
              have c5 := hc 5 _ rfl
              rw [Nat.add_zero] at c0
              have HNT := Lib.hid (HNUM.out t.num (mem_numsOf.2 ⟨k, hlt, t, List.mem_of_getElem? ht, rfl⟩))
              have HT := Lib.hid ht
              rw [hA]
              clear hc ht hbw hidx
              go_wp2_with (at_mapUpdate; refine wpList_marks rfl _ _ _ rfl Try.underlying100 Try.underlying22 Try.underlying4 (hB.alloc _) (by omega) rfl (v := t.num) (c := true) HNT.out rfl rfl ?_)
              rintro w5 hB5 hg5
              have hC5 := (hC.alloc _).grown_step hg5 (fun g e _ h => by cases e; exact h rfl)
              have hB6 : BSet Try.prog 22 4 w5 M (n + 1) (fun x => decide (x ∈ numsTo v k ++ ((v.tab k).take (j + 1)).map Table.num)) := hB5.congr (fun x => by
                rw [List.take_add_one, HT.out]
                by_cases hx : x = t.num <;> simp [hx])
              clear hB hC hB5 hg5 c0 c1 c2 c3 c4 c5
              go_wp2
              exact ⟨⟨j + 1, n + 1, by omega, by simp, by omega, hB6, hC5⟩, by simp [intOf]; omega⟩
            · obtain rfl : j = (v.tab k).length := by omega
              have hB6 : BSet Try.prog 22 4 wr M n (fun x => decide (x ∈ numsTo v (k + 1))) := hB.congr (fun x => by rw [numsTo_succ, List.take_length])
              clear hB
              go_wp2
              exact ⟨⟨k + 1, n, by omega, by simp, by omega, hB6, hC⟩, by simp [intOf]; omega⟩
        · obtain rfl : k = 4 := by omega
          have hBH : BSet Try.prog 22 4 wr M n (fun x => decide (x ∈ numsOf v)) := hB
          clear hB
          have bS := bS4.fr hC (by omega)
          have bE := bE4.fr hC (by omega)
          have bR := bR4.fr hC (by omega)
          have y4 := bE.cell 4
          have r0 := bR.cell 0
          have r1 := bR.cell 1
          have r2 := bR.cell 2
          have r3 := bR.cell 3
          have r4 := bR.cell 4
          have r5 := bR.cell 5
          have r6 := bR.cell 6
          have rf := bR.frozen
          simp only [List.getElem?_toArray, List.getElem?_cons_zero, List.getElem?_cons_succ] at y4 r0 r1 r2 r3 r4 r5 r6
          go_wp2_with fail
          rw [show ((4 : Nat) : Int) = (4 : Int) from rfl]
          have hn2 : n ≤ 4398046511104 := by omega
          clear y4 r0 r1 r2 r3 r4 r5 r6 rf hn
          have HBH := Lib.hid hBH
          clear hBH
          go_loopw [68] (fun i wr => ∃ k : Nat, k ≤ e.drop.length ∧ i = .int .i64 k ∧ BSet Try.prog 22 4 wr M n (fun x => decide (x ∈ numsOf v) && !decide (x ∈ e.drop.take k)) ∧ Fr (fun b => b ≠ M) w4 wr ∧ Hid (dropsOk (numsOf v) [] e.drop = dropsOk (numsOf v) (e.drop.take k) (e.drop.drop k))) (fun i _ => e.drop.length - (intOf i).toNat)
          · exact ⟨0, by omega, rfl, HBH.out.congr (fun x => by rw [List.take_zero]; simp only [List.not_mem_nil, decide_false, Bool.not_false, Bool.and_true]), hC, rfl⟩
          · clear bS bE bR hC HBH hlt
            obtain ⟨k, hk, rfl, hB, hC, hdr⟩ := hrel
            have bE := bE4.fr hC (by omega)
            have bR := bR4.fr hC (by omega)
            have r0 := bR.cell 0
            have r1 := bR.cell 1
            have r2 := bR.cell 2
            have r3 := bR.cell 3
            have r4 := bR.cell 4
            have r5 := bR.cell 5
            have r6 := bR.cell 6
            have rf := bR.frozen
            simp only [List.getElem?_toArray, List.getElem?_cons_zero, List.getElem?_cons_succ] at r0 r1 r2 r3 r4 r5 r6
            by_cases hlk : k < e.drop.length
            · obtain ⟨d, hd⟩ : ∃ d, e.drop[k]? = some d := ⟨_, List.getElem?_eq_getElem hlk⟩
              obtain ⟨b, off, hA, -, hbw, hc⟩ := (HE.out _ (hXF _ hC)).drop.elem u64C_len rfl hd
              have c0 := hc 0 _ rfl
              rw [Nat.add_zero, Nat.mul_one] at c0
              have HND := Lib.hid (HOK.out.drop d (List.mem_of_getElem? hd))
              have HDD : Hid (e.drop.drop k = d :: e.drop.drop (k + 1)) := by
                unfold Hid
                rw [List.drop_eq_getElem_cons hlk]
                rw [List.getElem?_eq_getElem hlk] at hd
                cases hd
                rfl
              have HTK : Hid (e.drop.take (k + 1) = e.drop.take k ++ [d]) := by
                unfold Hid
                rw [List.take_add_one, hd]
                rfl
              rw [hA]
              clear hc hd hbw
              by_cases hin : d ∈ numsOf v ∧ d ∉ e.drop.take k
              · have hf : (decide (d ∈ numsOf v) && !decide (d ∈ e.drop.take k)) = true := by simp [hin]
                have HDR : Hid (dropsOk (numsOf v) [] e.drop = dropsOk (numsOf v) (e.drop.take (k + 1)) (e.drop.drop (k + 1))) := by
                  unfold Hid
                  rw [hdr.out, HDD.out, dropsOk_step hin.1 hin.2, HTK.out]
                clear hin hdr
                go_wp2_with (first | (at_lookup; refine wpList_asks rfl _ _ rfl Try.underlying100 Try.underlying22 Try.underlying4 (zero_bool _) hB rfl (v := d) HND.out rfl ?_; rw [hf]) | (at_delete; refine wpList_drops rfl _ _ rfl Try.underlying100 Try.underlying22 Try.underlying4 hB rfl (v := d) HND.out rfl ?_))
                rintro w5 hB5 hg5
                have hB6 : BSet Try.prog 22 4 w5 M n (fun x => decide (x ∈ numsOf v) && !decide (x ∈ e.drop.take (k + 1))) := hB5.congr (fun x => by
                  rw [HTK.out]
                  by_cases hx : x = d <;> simp [hx])
                have hC5 := hC.grown_step hg5 (fun g e _ h => by cases e; exact h rfl)
                clear hB hC hB5 hg5 c0 bE bR r0 r1 r2 r3 r4 r5 r6 rf HTK HDD hf
                go_wp2
                exact ⟨⟨k + 1, by omega, by simp, hB6, hC5, HDR⟩, by simp [intOf]; omega⟩
              · have hf : (decide (d ∈ numsOf v) && !decide (d ∈ e.drop.take k)) = false := by
                  by_cases h1 : d ∈ numsOf v
                  · have h2 : d ∈ e.drop.take k := Classical.byContradiction fun h2 => hin ⟨h1, h2⟩
                    simp [h2]
                  · simp [h1]
                have HZ : Hid (LivePost (applyWith putProg v e) = LivePost (noLive, 3)) := HAP.out (noLive, 3) (by
                  have h1 : dropsOk (numsOf v) [] e.drop = false := by rw [hdr.out, HDD.out]; exact dropsOk_bad hin
                  simp [applyWith, HM.out, hlow, h1])
                clear hin hdr HAP
                (try dsimp only); (repeat (first | (at_lookup; refine wpList_asks rfl _ _ rfl Try.underlying100 Try.underlying22 Try.underlying4 (zero_bool _) hB rfl (v := d) HND.out rfl ?_; rw [hf]) | go_values | go_skip | go_guarded | go_step | go_upon)); (try simp only [Exit.inBlock, Exit.then])
                (try simp only [Exit.inBlock, Exit.then])
                refine live_ret (v := noLive) (p := noPlace) rfl rfl rfl rfl (bR.put7 _ _ _ _ _ _ _) ?_
                rw [HZ.out]
                exact LivePost.mk (LiveAt.none_ _) (Below.put7 (hXF _ hC) (by omega) _ _ _ _ _ _ _)
            · obtain rfl : k = e.drop.length := by omega
              have HDR : Hid (dropsOk (numsOf v) [] e.drop = true) := by
                unfold Hid
                rw [hdr.out, List.drop_length]
                rfl
              have hBD : BSet Try.prog 22 4 wr M n (fun x => decide (x ∈ numsOf v) && !decide (x ∈ e.drop)) := hB.congr (fun x => by rw [List.take_length])
              have bS := bS4.fr hC (by omega)
              obtain ⟨O, hO⟩ : ∃ O, wr.heap.size = O := ⟨_, rfl⟩
              obtain ⟨w6, hw6⟩ : ∃ w6, wr.alloc (.cells #[.int .u64 e.next, .int .u64 e.seq, .int .u64 e.log, .slice none 0 0, .slice none 0 0, .slice none 0 0, .slice none 0 0] 48) = w6 := ⟨_, rfl⟩
              have hMO : M < O := by have := hB.lt; omega
              have bO6 : Box w6 O 48 ((partOf v e 0 0).cells noPlace) := by
                rw [← hw6, Live.cells_congr (o := partOf v e 0 0) (o' := ⟨e.next, e.seq, e.log, fun _ => []⟩) noPlace rfl rfl rfl (partOf_zero v e)]
                exact Box.new_at _ _ _ _ hO.symm
              have hE6 : Ext wr w6 := by rw [← hw6]; exact Ext.al _ _
              have hX5 := hXF _ hC
              have hX6 : Ext w w6 := hX5.trans' hE6
              have bM6 := hBD.ext hE6
              have bS6 := bS.ext hE6
              have bE6 := bE.ext hE6
              have bR6 := bR.ext hE6
              have y0 := bE.cell 0
              have y1 := bE.cell 1
              have y2 := bE.cell 2
              have z3 := bS.cell 3
              have z4 := bS.cell 4
              have z5 := bS.cell 5
              have z6 := bS.cell 6
              simp only [Live.cells, List.getElem?_toArray, List.getElem?_cons_zero, List.getElem?_cons_succ] at y0 y1 y2 z3 z4 z5 z6
              have HW6 := Lib.hid hw6
              have hSO : S < O := by omega
              clear hw6 hB hBD hC hdr bS bE bR r0 r1 r2 r3 r4 r5 r6 rf hE6 hXF bM4 bS4 bE4 bR4 hX4 hk hlk hX5
              go_wp2_with fail
              clear z3 z4 z5 z6 y0 y1 y2
              rw [HW6.out]
              have hOX : ∀ wr, Fr (fun b => b < O) w6 wr → Ext w wr := fun wr h => Fr.ext ((Fr.of_ext (S := fun x => x < S) hX6).step h (by omega)) (by omega)
              go_loopw [89] (fun i wr => ∃ (k : Nat) (q : Place), k ≤ 4 ∧ i = .int .i64 k ∧ Box wr O 48 ((partOf v e k 0).cells q) ∧ LOwn wr (O + 1) (partOf v e k 0) q ∧ Fr (fun b => b < O) w6 wr) (fun i _ => 4 - (intOf i).toNat)
              · exact ⟨0, noPlace, by omega, rfl, bO6, LOwn.none_ (partOf_zero v e), Fr.refl _⟩
              · obtain ⟨k, q, hk, rfl, bO, hown, hC⟩ := hrel
                by_cases hlt : k < 4
                · have hidx := fun w => v.index p w hlt
                  have hlk := HLEN.out k hlt
                  go_wp2_with fail
                  have hd : decide ((k : Int) < 4) = true := by simp; omega
                  rw [hd]
                  clear hd
                  go_loopw [95] (fun i wr => ∃ (j : Nat) (q : Place), j ≤ (v.tab k).length ∧ i = .int .i64 j ∧ Box wr O 48 ((partOf v e k j).cells q) ∧ LOwn wr (O + 1) (partOf v e k j) q ∧ Fr (fun b => b < O) w6 wr) (fun i _ => (v.tab k).length - (intOf i).toNat)
                  · exact ⟨0, q, by omega, rfl, bO, hown, hC⟩
                  · clear bO hown hC
                    obtain ⟨j, q, hj, rfl, bO, hown, hC⟩ := hrel
                    by_cases hlj : j < (v.tab k).length
                    · obtain ⟨t, ht⟩ : ∃ t, (v.tab k)[j]? = some t := ⟨_, List.getElem?_eq_getElem hlj⟩
                      obtain ⟨b, off, hA, -, hbw, hc⟩ := (HL.out _ (hOX _ hC) k hlt).elem Table.cells_len rfl ht
                      have c0 := hc 0 _ rfl
                      have c1 := hc 1 _ rfl
                      have c2 := hc 2 _ rfl
                      have c3 := hc 3 _ rfl
                      have c4 := hc 4 _ rfl
                      have c5 := hc 5 _ rfl
                      rw [Nat.add_zero] at c0
                      have hin : t.num ∈ numsOf v := mem_numsOf.2 ⟨k, hlt, t, List.mem_of_getElem? ht, rfl⟩
                      have HNT := Lib.hid (HNUM.out t.num hin)
                      have HT := Lib.hid ht
                      have bM := (bM6.fr hC hMO).alloc (.cells t.cells.toArray 53)
                      rw [hA]
                      clear hc ht hbw hidx
                      by_cases hdr : t.num ∈ e.drop
                      · have hf : (decide (t.num ∈ numsOf v) && !decide (t.num ∈ e.drop)) = false := by simp [hdr]
                        have HP := Lib.hid (partOf_goes (e := e) HT.out hdr)
                        have bO1 := bO.alloc (.cells t.cells.toArray 53)
                        have hown1 := hown.alloc (.cells t.cells.toArray 53)
                        have hC1 := hC.alloc (.cells t.cells.toArray 53)
                        clear hin hdr bO hown hC
                        go_wp2_with (at_lookup; refine wpList_asks rfl _ _ rfl Try.underlying100 Try.underlying22 Try.underlying4 (zero_bool _) bM rfl (v := t.num) HNT.out rfl ?_; rw [hf])
                        exact ⟨⟨j + 1, q, by omega, by simp, by rw [HP.out]; exact bO1, by rw [HP.out]; exact hown1, hC1⟩, by simp [intOf]; omega⟩
                      · have hf : (decide (t.num ∈ numsOf v) && !decide (t.num ∈ e.drop)) = true := by simp [hdr, hin]
                        have HP := Lib.hid (partOf_stays (e := e) HT.out hdr)
                        clear hin hdr
                        obtain ⟨T, hT⟩ : ∃ T, wr.heap.size = T := ⟨_, rfl⟩
                        have hOT : O < T := by have := bO.lt; omega
                        go_wp2_with (at_lookup; refine wpList_asks rfl _ _ rfl Try.underlying100 Try.underlying22 Try.underlying4 (zero_bool _) bM rfl (v := t.num) HNT.out rfl ?_; rw [hf])
                        obtain ⟨wt, hwt⟩ : ∃ wt, wr.alloc (.cells t.cells.toArray 53) = wt := ⟨_, rfl⟩
                        rw [show wr.alloc (.cells #[.int .u64 t.num, .int .i64 t.level, .int .i64 t.size, .int .i64 t.count, str t.least, str t.great] 53) = wt from hwt]
                        have bOt : Box wt O 48 ((partOf v e k j).cells q) := by rw [← hwt]; exact bO.alloc _
                        have bTt : Box wt T 53 t.cells.toArray := by rw [← hwt]; exact Box.new_at _ _ _ _ hT.symm
                        have ownt : LOwn wt (O + 1) (partOf v e k j) q := by rw [← hwt]; exact hown.alloc _
                        have hCt : Fr (fun b => b < O) w6 wt := by rw [← hwt]; exact hC.alloc _
                        have hzt : wt.heap.size = T + 1 := by rw [← hwt, ← hT]; simp
                        have o1 := bOt.cell (3 + k)
                        rw [Live.cell _ _ hlt] at o1
                        have of := bOt.frozen
                        have t0 := bTt.cell 0
                        have t1 := bTt.cell 1
                        have t2 := bTt.cell 2
                        have t3 := bTt.cell 3
                        have t4 := bTt.cell 4
                        have t5 := bTt.cell 5
                        simp only [Table.cells, List.getElem?_toArray, List.getElem?_cons_zero, List.getElem?_cons_succ] at t0 t1 t2 t3 t4 t5
                        have hblk : ∀ g, ownBlk (q.A k) = some g → O + 1 ≤ g ∧ g < T := fun g e => by have := (hown.row k hlt).blk g e; omega
                        have hpl := partOf_len (e := e) hj
                        have k0 : (0 : Int) ≤ (k : Int) := by omega
                        have k4 : (k : Int) < 4 := by omega
                        clear bO hown hC bM c0 c1 c2 c3 c4 c5 hf hwt
                        refine wp_region_sch (RS ((fun b => b = O ∨ b = T))) 10 [(0, true), (1, true), (2, true), (3, true), (4, true), (5, true), (8, true), (6, false), (7, false), (9, true), (10, false)] (by kernel_rfl) (by kernel_rfl) RS.refl RS.trans (fun _ _ d _ _ h => by cases d <;> exact h) ?_
                        refine wpSch_q ?_ rfl rfl (fun w' hR => ?_) ?_
                        rotate_left
                        · (go_simp; first | rfl | rw [if_neg (by simp; omega)] | rw [if_neg (by omega)])
                        (try simp only [Act.put, List.setIfInBounds_toArray, List.set_cons_zero, List.set_cons_succ])
                        refine wpSch_q ?_ rfl rfl (fun w' hR => ?_) ?_
                        rotate_left
                        · (go_simp; first | rfl | rw [if_neg (by simp; omega)] | rw [if_neg (by omega)])
                        (try simp only [Act.put, List.setIfInBounds_toArray, List.set_cons_zero, List.set_cons_succ])
                        refine wpSch_q ?_ rfl rfl (fun w' hR => ?_) ?_
                        rotate_left
                        · (go_simp; first | rfl | rw [if_neg (by simp; omega)] | rw [if_neg (by omega)])
                        (try simp only [Act.put, List.setIfInBounds_toArray, List.set_cons_zero, List.set_cons_succ])
                        refine wpSch_q ?_ rfl rfl (fun w' hR => ?_) ?_
                        rotate_left
                        · (go_simp; first | rfl | rw [if_neg (by simp; omega)] | rw [if_neg (by omega)])
                        (try simp only [Act.put, List.setIfInBounds_toArray, List.set_cons_zero, List.set_cons_succ])
                        refine wpSch_q ?_ rfl rfl (fun w' hR => ?_) ?_
                        rotate_left
                        · (obtain ⟨hRs, hRc⟩ := hR; (try have hRd := fun o => hRc _ o rfl (by first | (simp; done) | (simp; omega) | omega)); (try have hRe := fun o => hRc _ o (Or.inl rfl) (by first | (simp; done) | (simp; omega) | omega)); (try have hRf := fun o => hRc _ o (Or.inr rfl) (by first | (simp; done) | (simp; omega) | omega)); (try have hRg := fun o => hRc _ o (Or.inr (Or.inl rfl)) (by first | (simp; done) | (simp; omega) | omega)); (try have hRh := fun o => hRc _ o (Or.inr (Or.inr rfl)) (by first | (simp; done) | (simp; omega) | omega)); go_simp; first | rfl | rw [if_neg (by simp; omega)] | rw [if_neg (by omega)])
                        (try simp only [Act.put, List.setIfInBounds_toArray, List.set_cons_zero, List.set_cons_succ])
                        refine wpSch_q ?_ rfl rfl (fun w' hR => ?_) ?_
                        rotate_left
                        · (obtain ⟨hRs, hRc⟩ := hR; (try have hRd := fun o => hRc _ o rfl (by first | (simp; done) | (simp; omega) | omega)); (try have hRe := fun o => hRc _ o (Or.inl rfl) (by first | (simp; done) | (simp; omega) | omega)); (try have hRf := fun o => hRc _ o (Or.inr rfl) (by first | (simp; done) | (simp; omega) | omega)); (try have hRg := fun o => hRc _ o (Or.inr (Or.inl rfl)) (by first | (simp; done) | (simp; omega) | omega)); (try have hRh := fun o => hRc _ o (Or.inr (Or.inr rfl)) (by first | (simp; done) | (simp; omega) | omega)); go_simp; first | rfl | rw [if_neg (by simp; omega)] | rw [if_neg (by omega)])
                        (try simp only [Act.put, List.setIfInBounds_toArray, List.set_cons_zero, List.set_cons_succ])
                        refine wpSch_q ?_ rfl rfl (fun w' hR => ?_) ?_
                        rotate_left
                        · (go_simp; first | rfl | rw [if_neg (by simp; omega)] | rw [if_neg (by omega)])
                        (try simp only [Act.put, List.setIfInBounds_toArray, List.set_cons_zero, List.set_cons_succ])
                        refine wpSch_e rfl rfl (fun K hK => ?_)
                        go_simp
                        refine hK _ _ (fun _ => RS.alloc _) ?_
                        clear hK K
                        (try simp only [Act.put, List.setIfInBounds_toArray, List.set_cons_zero, List.set_cons_succ])
                        refine wpSch_e rfl rfl (fun K hK => ?_)
                        (refine wp_push_at Try.tablesOf _ _ rfl t rfl ((ownt.row k hlt).fr ((Fr.refl wt).drew (S := fun _ => True)) (fun _ _ _ => trivial)) rfl (by show Value.slice (some ⟨T + 1, 0, none⟩) 1 1 = _; rw [← hzt]; rfl) rfl (Table.cells_len _) (Table.one _) (by omega) (by omega) (by show O + 1 ≤ wt.heap.size; omega) ?_; rintro A2 c2' w10 hown' hg hat)
                        refine hK _ _ (fun _ => RS.fr (S' := (fun b => b = O ∨ b = T)) (Fr.of_grown hg (fun g e _ h => by have := hblk g e; omega)) (fun _ _ h => h)) ?_
                        clear hK K
                        (try simp only [Act.put, List.setIfInBounds_toArray, List.set_cons_zero, List.set_cons_succ])
                        (have bO2 := ((bOt.ext (Ext.dr wt)).alloc (.cells t.cells.toArray 53)).grown hg (fun e => by have := hblk _ e.symm; omega); have own2 := ownt.fr ((Fr.refl wt).drew (S := fun _ => True)) (fun _ _ _ => trivial); have own3 := own2.put hlt ((World.grownBy_alloc _ _ _).trans hg) hown' hat; have hC3 := ((hCt.drew).alloc (.cells t.cells.toArray 53)).grown_step hg (fun g e _ h => by have := hblk g e; omega); clear o1 of t0 t1 t2 t3 t4 t5 own2; have o1 := bO2.cell (3 + k); rw [Live.cell _ _ hlt] at o1; have of := bO2.frozen)
                        refine wpSch_q ?_ rfl rfl (fun w' hR => ?_) ?_
                        rotate_left
                        · (go_simp; first | rfl | rw [if_neg (by simp; omega)] | rw [if_neg (by omega)])
                        (try simp only [Act.put, List.setIfInBounds_toArray, List.set_cons_zero, List.set_cons_succ])
                        refine wpSch_e rfl rfl (fun K hK => ?_)
                        go_simp
                        refine hK _ _ (fun h => absurd rfl h) ?_
                        clear hK K
                        (try simp only [Act.put, List.setIfInBounds_toArray, List.set_cons_zero, List.set_cons_succ])
                        refine wpSch_nil ?_
                        have bO3 : Box (w10.setCell ⟨O, 3 + k, none⟩ (.slice A2 (((partOf v e k j).tab k).length + 1) c2')) O 48 ((partOf v e k (j + 1)).cells (q.set k A2 c2')) := by
                          have h := bO2.put (3 + k) (.slice A2 (((partOf v e k j).tab k).length + 1) c2')
                          rw [HP.out, Live.cells_set _ _ hlt, List.length_append]
                          exact h
                        rw [← HP.out] at own3
                        have own4 := own3.setCell (p := ⟨O, 3 + k, none⟩) (Nat.lt_succ_self O) (.slice A2 (((partOf v e k j).tab k).length + 1) c2')
                        have hC4 := hC3.set (p := ⟨O, 3 + k, none⟩) (.slice A2 (((partOf v e k j).tab k).length + 1) c2') (fun _ h => Nat.lt_irrefl O h)
                        clear own3 hC3 bO2 ownt hCt bOt bTt o1 of hg hown' hat k0 k4 hpl hblk
                        go_wp2
                        exact ⟨⟨j + 1, q.set k A2 c2', by omega, by simp, bO3, own4, hC4⟩, by simp [intOf]; omega⟩
                    · obtain rfl : j = (v.tab k).length := by omega
                      have HP := Lib.hid (partOf_all (v := v) (e := e) (k := k) (Nat.le_refl (v.tab k).length))
                      go_wp2
                      exact ⟨⟨k + 1, q, by omega, by simp, by rw [← HP.out]; exact bO, by rw [← HP.out]; exact hown, hC⟩, by simp [intOf]; omega⟩
                · obtain rfl : k = 4 := by omega
                  rw [Live.cells_congr (o := partOf v e 4 0) (o' := keptOf v e) q rfl rfl rfl (partOf_kept v e)] at bO
                  have hown := hown.congr (o' := keptOf v e) (fun k hk => (partOf_kept v e k hk).symm)
                  have bM := (bM6.fr hC hMO).congr (g := fun x => decide (x ∈ numsOf (keptOf v e))) (fun x => by
                    by_cases h1 : x ∈ numsOf v <;> by_cases h2 : x ∈ e.drop <;> simp [mem_kept, h1, h2])
                  have bE := bE6.fr hC (by omega)
                  have y3 := bE.cell 3
                  simp only [List.getElem?_toArray, List.getElem?_cons_zero, List.getElem?_cons_succ] at y3
                  have hC' : Fr (fun b => b ≠ M ∧ b < O) w6 wr := hC.mono (fun _ _ h => h.2)
                  have hO6 : O < w6.heap.size := by have := bO6.lt; omega
                  have hO7 : O < wr.heap.size := by have := bO.lt; omega
                  have hkl : ∀ i, i < 4 → ((keptOf v e).tab i).length ≤ 549755813888 + 0 := fun i hi => Nat.le_trans (List.length_filter_le _ _) (HLEN.out i hi)
                  clear hC hOX bO6 hk
                  go_wp2_with fail
                  rw [show ((4 : Nat) : Int) = (4 : Int) from rfl]
                  have hOX : ∀ wr, Fr (fun b => b ≠ M ∧ b < O) w6 wr → Ext w wr := fun wr h => Fr.ext ((Fr.of_ext (S := fun x => x < S) hX6).step h (by omega)) (by omega)
                  go_loopw [118] (fun i wr => ∃ (k n : Nat) (o : Live) (q : Place), k ≤ e.add.length ∧ i = .int .i64 k ∧ n ≤ 4398046511104 + k ∧ BSet Try.prog 22 4 wr M n (fun x => decide (x ∈ numsOf o)) ∧ Box wr O 48 (o.cells q) ∧ LOwn wr (O + 1) o q ∧
                    (∀ i, i < 4 → (o.tab i).length ≤ 549755813888 + k) ∧ Fr (fun b => b ≠ M ∧ b < O) w6 wr ∧ Hid (addAll putProg e.next e.add (keptOf v e) = addAll putProg e.next (e.add.drop k) o)) (fun i _ => e.add.length - (intOf i).toNat)
                  · exact ⟨0, n, keptOf v e, q, by omega, rfl, Nat.le_trans hn2 (Nat.le_add_right _ _), bM, bO, hown, hkl, hC', rfl⟩
                  · clear bM bO hown hkl hC' bE y3 hO7 hlt
                    obtain ⟨k, n, o, q, hk, rfl, hn, bM, bO, hown, hkl, hC, hadd⟩ := hrel
                    by_cases hlk : k < e.add.length
                    · obtain ⟨t, ht⟩ : ∃ t, e.add[k]? = some t := ⟨_, List.getElem?_eq_getElem hlk⟩
                      have htm := List.mem_of_getElem? ht
                      have htl := may_levels HM.out t htm
                      obtain ⟨L, hL⟩ : ∃ L : Nat, t.level = (L : Int) := ⟨t.level.toNat, by omega⟩
                      have hL4 : L < 4 := by omega
                      have HLV : Hid (lvl t = L) := by unfold Hid lvl; omega
                      have HNT : Hid (t.num < M64) := Lib.hid (HOK.out.add t htm).1
                      have HDD : Hid (e.add.drop k = t :: e.add.drop (k + 1)) := by
                        unfold Hid
                        rw [List.drop_eq_getElem_cons hlk]
                        rw [List.getElem?_eq_getElem hlk] at ht
                        cases ht
                        rfl
                      obtain ⟨b, off, hA, -, hbw, hc⟩ := (HE.out _ (hOX _ hC)).add.elem Table.cells_len rfl ht
                      have c0 := hc 0 _ rfl
                      have c1 := hc 1 _ rfl
                      have c2 := hc 2 _ rfl
                      have c3 := hc 3 _ rfl
                      have c4 := hc 4 _ rfl
                      have c5 := hc 5 _ rfl
                      rw [Nat.add_zero] at c0
                      rw [hL] at c1
                      rw [hA]
                      clear hc ht htm hbw htl
                      obtain ⟨T, hT⟩ : ∃ T, wr.heap.size = T := ⟨_, rfl⟩
                      have hOT : O < T := by have := bO.lt; omega
                      obtain ⟨wt, hwt⟩ : ∃ wt, wr.alloc (.cells #[.int .u64 t.num, .int .i64 L, .int .i64 t.size, .int .i64 t.count, str t.least, str t.great] 53) = wt := ⟨_, rfl⟩
                      have hwt' : wr.alloc (.cells t.cells.toArray 53) = wt := by rw [← hwt, ← hL]; rfl
                      have hEt : Ext wr wt := by rw [← hwt]; exact Ext.al _ _
                      have bMt := bM.ext hEt
                      have bOt := bO.ext hEt
                      have ownt := hown.ext hEt
                      have hCt : Fr (fun b => b ≠ M ∧ b < O) w6 wt := hC.ext_step hEt
                      have bTt : Box wt T 53 t.cells.toArray := by rw [← hwt']; exact Box.new_at _ _ _ _ hT.symm
                      have hzt : wt.heap.size = T + 1 := by rw [← hwt, ← hT]; simp
                      have HBLK : Hid (∀ g, ownBlk (q.A L) = some g → O + 1 ≤ g ∧ g < T) := fun g e => by have := (hown.row L hL4).blk g e; omega
                      have bE := bE6.fr hCt (by omega)
                      have bR := bR6.fr hCt (by omega)
                      have y0 := bE.cell 0
                      have r0 := bR.cell 0
                      have r1 := bR.cell 1
                      have r2 := bR.cell 2
                      have r3 := bR.cell 3
                      have r4 := bR.cell 4
                      have r5 := bR.cell 5
                      have r6 := bR.cell 6
                      have rf := bR.frozen
                      have t0 := bTt.cell 0
                      have t1 := bTt.cell 1
                      have t2 := bTt.cell 2
                      have t3 := bTt.cell 3
                      have t4 := bTt.cell 4
                      have t5 := bTt.cell 5
                      simp only [Table.cells, hL, List.getElem?_toArray, List.getElem?_cons_zero, List.getElem?_cons_succ] at y0 r0 r1 r2 r3 r4 r5 r6 t0 t1 t2 t3 t4 t5
                      have hXt := hOX _ hCt
                      have bMw := bM.alloc (.cells #[.int .u64 t.num, .int .i64 L, .int .i64 t.size, .int .i64 t.count, str t.least, str t.great] 53)
                      have HWT := Lib.hid hwt
                      clear hwt hwt' hEt bM bO hown hC
                      by_cases hin : t.num ∈ numsOf o
                      · have hf : decide (t.num ∈ numsOf o) = true := by simp [hin]
                        have HZ : Hid (LivePost (applyWith putProg v e) = LivePost (noLive, 3)) := HAP.out (noLive, 3) (by
                          have h1 : addAll putProg e.next e.add (keptOf v e) = none := by rw [hadd.out, HDD.out]; simp [addAll, hin]
                          simp [applyWith, HM.out, hlow, HDR.out, h1])
                        clear hin hadd HAP
                        (try dsimp only); (repeat (first | (at_lookup; refine wpList_asks rfl _ _ rfl Try.underlying100 Try.underlying22 Try.underlying4 (zero_bool _) bMw rfl (v := t.num) HNT.out rfl ?_; rw [hf, HWT.out]) | go_values | go_skip | go_guarded | go_step | go_upon)); (try simp only [Exit.inBlock, Exit.then])
                        (try simp only [Exit.inBlock, Exit.then])
                        refine live_ret (v := noLive) (p := noPlace) rfl rfl rfl rfl (bR.put7 _ _ _ _ _ _ _) ?_
                        rw [HZ.out]
                        exact LivePost.mk (LiveAt.none_ _) (Below.put7 hXt (by omega) _ _ _ _ _ _ _)
                      · have hf : decide (t.num ∈ numsOf o) = false := by simp [hin]
                        by_cases hnx : e.next ≤ t.num
                        · have HZ : Hid (LivePost (applyWith putProg v e) = LivePost (noLive, 3)) := HAP.out (noLive, 3) (by
                            have h1 : addAll putProg e.next e.add (keptOf v e) = none := by rw [hadd.out, HDD.out]; simp [addAll, hnx]
                            simp [applyWith, HM.out, hlow, HDR.out, h1])
                          clear hin hadd HAP
                          (try dsimp only); (repeat (first | (at_lookup; refine wpList_asks rfl _ _ rfl Try.underlying100 Try.underlying22 Try.underlying4 (zero_bool _) bMw rfl (v := t.num) HNT.out rfl ?_; rw [hf, HWT.out]) | go_values | go_skip | go_guarded | go_step | go_upon)); (try simp only [Exit.inBlock, Exit.then])
                          (try simp only [Exit.inBlock, Exit.then])
                          refine live_ret (v := noLive) (p := noPlace) rfl rfl rfl rfl (bR.put7 _ _ _ _ _ _ _) ?_
                          rw [HZ.out]
                          exact LivePost.mk (LiveAt.none_ _) (Below.put7 hXt (by omega) _ _ _ _ _ _ _)
                        · have HADD : Hid (addAll putProg e.next e.add (keptOf v e) = if clash t (o.tab L) = true then none else addAll putProg e.next (e.add.drop (k + 1)) (o.set L (putProg (o.tab L) t))) := by
                            unfold Hid
                            rw [hadd.out, HDD.out]
                            have hnn : ¬ (t.num ∈ numsOf o ∨ e.next ≤ t.num) := fun h => h.elim hin hnx
                            rw [addAll, if_neg hnn, HLV.out]
                          clear hin hadd r0 r1 r2 r3 r4 r5 r6 rf
                          go_wp2_with (first | (at_lookup; refine wpList_asks rfl _ _ rfl Try.underlying100 Try.underlying22 Try.underlying4 (zero_bool _) bMw rfl (v := t.num) HNT.out rfl ?_; rw [hf, HWT.out]) | (at_mapUpdate; refine wpList_marks rfl _ _ _ rfl Try.underlying100 Try.underlying22 Try.underlying4 bMt (by omega) rfl (v := t.num) (c := true) HNT.out rfl rfl ?_))
                          rintro w7 bM7 hg7
                          have hFr7 : Fr (fun b => b ≠ M) wt w7 := Fr.of_grown hg7 (fun g e _ h => by cases e; exact h rfl)
                          have bO7 := bOt.fr hFr7 (by omega)
                          have bT7 := bTt.fr hFr7 (by omega)
                          have own7 := ownt.fr hFr7 (fun b hb _ => by omega)
                          have hC7 : Fr (fun b => b ≠ M ∧ b < O) w6 w7 := hCt.step hFr7 (fun _ _ h => h.1)
                          have hz7 := hFr7.size
                          have bM8 : BSet Try.prog 22 4 w7 M (n + 1) (fun x => decide (x ∈ numsOf (o.set L (putProg (o.tab L) t)))) := bM7.congr (fun x => by
                            unfold putProg
                            by_cases h1 : x = t.num
                            · simp [mem_put hL4, h1]
                            · simp [mem_put hL4, h1])
                          have t0 := bT7.cell 0
                          have t1 := bT7.cell 1
                          have t2 := bT7.cell 2
                          have t3 := bT7.cell 3
                          have t4 := bT7.cell 4
                          have t5 := bT7.cell 5
                          simp only [Table.cells, hL, List.getElem?_toArray, List.getElem?_cons_zero, List.getElem?_cons_succ] at t0 t1 t2 t3 t4 t5
                          have o1 := bO7.cell (3 + L)
                          rw [Live.cell _ _ hL4] at o1
                          have hX7 := hOX _ hC7
                          have hlen := hkl L hL4
                          have HROW := Lib.hid (own7.row L hL4).row
                          clear hg7 bM7 hFr7 bOt bTt ownt hCt hXt bMt bMw bE bR y0 HWT
                          go_wp2_with fail
                          have HC7 := Lib.hid hC7
                          have HO7 := Lib.hid own7
                          have HB8 := Lib.hid bM8
                          have hT7 : T < w7.heap.size := bT7.lt
                          clear hC7 own7 bM8 t0 t1 t2 t3 t4 t5 o1
                          go_loopw [21, 145] (fun a i wr => ∃ j m : Nat, j ≤ (o.tab L).length ∧ i = .int .i64 j ∧ a = .int .i64 m ∧ m ≤ j ∧ Hid (m = ((o.tab L).take j).countP (ahead t)) ∧ Hid (clash t ((o.tab L).take j) = false) ∧ Ext w7 wr) (fun _ i _ => (o.tab L).length - (intOf i).toNat)
                          · exact ⟨0, 0, by omega, rfl, rfl, by omega, rfl, by simp [Hid, clash], Below.refl _ _⟩
                          · obtain ⟨j, m, hj, rfl, rfl, hmj, hm, hcl, hX⟩ := hrel
                            by_cases hlj : j < (o.tab L).length
                            · obtain ⟨u, hu⟩ : ∃ u, (o.tab L)[j]? = some u := ⟨_, List.getElem?_eq_getElem hlj⟩
                              obtain ⟨b2, off2, hA2, -, hbw2, hc2⟩ := (HROW.out.below hX (Nat.le_refl _)).elem Table.cells_len rfl hu
                              have c0 := hc2 0 _ rfl
                              have c1 := hc2 1 _ rfl
                              have c2 := hc2 2 _ rfl
                              have c3 := hc2 3 _ rfl
                              have c4 := hc2 4 _ rfl
                              have c5 := hc2 5 _ rfl
                              rw [Nat.add_zero] at c0
                              have HU := Lib.hid hu
                              have HAU : Hid (ahead t u = (if t.level = 0 then decide (u.num < t.num) else ltB u.least t.least)) := rfl
                              rw [hA2]
                              obtain ⟨U, hUs⟩ : ∃ U, wr.heap.size = U := ⟨_, rfl⟩
                              obtain ⟨wu, hwu⟩ : ∃ wu, wr.alloc (.cells #[.int .u64 u.num, .int .i64 u.level, .int .i64 u.size, .int .i64 u.count, str u.least, str u.great] 53) = wu := ⟨_, rfl⟩
                              have hEu : Ext wr wu := by rw [← hwu]; exact Ext.al _ _
                              have bUu : Box wu U 53 u.cells.toArray := by rw [← hwu]; exact Box.new_at _ _ _ _ hUs.symm
                              have hXu := hX.trans' hEu
                              have bTu := bT7.ext hXu
                              have t0 := bTu.cell 0
                              have t1 := bTu.cell 1
                              have t2 := bTu.cell 2
                              have t3 := bTu.cell 3
                              have t4 := bTu.cell 4
                              have t5 := bTu.cell 5
                              have u0 := bUu.cell 0
                              have u1 := bUu.cell 1
                              have u2 := bUu.cell 2
                              have u3 := bUu.cell 3
                              have u4 := bUu.cell 4
                              have u5 := bUu.cell 5
                              simp only [Table.cells, hL, List.getElem?_toArray, List.getElem?_cons_zero, List.getElem?_cons_succ] at t0 t1 t2 t3 t4 t5 u0 u1 u2 u3 u4 u5
                              clear hc2 hu hbw2 hEu hX
                              rcases Nat.eq_zero_or_pos L with hL0 | hLp
                              · have hgt : decide ((0 : Int) < (L : Int)) = false := by simp [hL0]
                                have hgt2 : decide (0 < L) = false := by simp [hL0]
                                have heq : ((L : Int) == (0 : Int)) = true := by simp [hL0]
                                have heq2 : decide (L = 0) = true := by simp [hL0]
                                have heq3 : (L == 0) = true := by simp [hL0]
                                have hl0 : t.level = 0 := by rw [hL, hL0]; rfl
                                have HCL : Hid (clash t ((o.tab L).take (j + 1)) = false) := clash_step HU.out hcl.out (by rw [hL, hgt]; rfl)
                                by_cases hun : u.num < t.num
                                · have HM1 : Hid (m + 1 = ((o.tab L).take (j + 1)).countP (ahead t)) := by
                                    have ha : ahead t u = true := by rw [HAU.out, if_pos hl0, decide_eq_true hun]
                                    unfold Hid
                                    rw [count_step HU.out, ← hm.out, if_pos ha]
                                  have hun1 : decide ((u.num : Int) < (t.num : Int)) = true := by simp [hun]
                                  have hun2 : decide (u.num < t.num) = true := by simp [hun]
                                  clear hL0 hm hcl hl0 hun
                                  go_wp2
                                  exact ⟨⟨j + 1, m + 1, by omega, by simp, by simp, by omega, HM1, HCL, hXu⟩, by simp [intOf]; omega⟩
                                · have HM1 : Hid (m = ((o.tab L).take (j + 1)).countP (ahead t)) := by
                                    have ha : ¬ ahead t u = true := by rw [HAU.out, if_pos hl0, decide_eq_false hun]; simp
                                    unfold Hid
                                    rw [count_step HU.out, ← hm.out, if_neg ha]
                                    rfl
                                  have hun1 : decide ((u.num : Int) < (t.num : Int)) = false := by simp; omega
                                  have hun2 : decide (u.num < t.num) = false := by simp; omega
                                  clear hL0 hm hcl hl0 hun
                                  go_wp2
                                  exact ⟨⟨j + 1, m, by omega, by simp, by simp, by omega, HM1, HCL, hXu⟩, by simp [intOf]; omega⟩
                              · have hgt : decide ((0 : Int) < (L : Int)) = true := by simp; omega
                                have hgt2 : decide (0 < L) = true := by simp; omega
                                have heq : ((L : Int) == (0 : Int)) = false := by simp; omega
                                have heq2 : decide (L = 0) = false := by simp; omega
                                have heq3 : (L == 0) = false := by simp; omega
                                have hl0 : ¬ t.level = 0 := by rw [hL]; omega
                                have HOV := overlaps_any t u wu
                                simp only [Table.cells, hL] at HOV
                                have HOV := Lib.hid HOV
                                cases hov : overB t u with
                                | true =>
                                  have HZ : Hid (LivePost (applyWith putProg v e) = LivePost (noLive, 3)) := HAP.out (noLive, 3) (by
                                    have h2 : clash t (o.tab L) = true := clash_of (List.mem_of_getElem? HU.out) (by rw [hL]; omega) hov
                                    have h1 : addAll putProg e.next e.add (keptOf v e) = none := by rw [HADD.out, if_pos h2]
                                    simp [applyWith, HM.out, hlow, HDR.out, h1])
                                  clear HAP hm hcl HADD hl0
                                  go_wp2_with fail
                                  refine HOV.out.mono ?_
                                  rintro _ w9 ⟨rfl, hb9⟩
                                  rw [hov]
                                  have bR := bR6.fr (HC7.out.ext_step (hXu.trans' hb9)) (by omega)
                                  have hX9 := (hX7.trans' hXu).trans' hb9
                                  have r0 := bR.cell 0
                                  have r1 := bR.cell 1
                                  have r2 := bR.cell 2
                                  have r3 := bR.cell 3
                                  have r4 := bR.cell 4
                                  have r5 := bR.cell 5
                                  have r6 := bR.cell 6
                                  have rf := bR.frozen
                                  simp only [List.getElem?_toArray, List.getElem?_cons_zero, List.getElem?_cons_succ] at r0 r1 r2 r3 r4 r5 r6
                                  clear t0 t1 t2 t3 t4 t5 u0 u1 u2 u3 u4 u5 c0 c1 c2 c3 c4 c5 hb9
                                  (try dsimp only); (repeat (first | go_values | go_skip | go_guarded | go_step | go_upon)); (try simp only [Exit.inBlock, Exit.then])
                                  refine live_ret (v := noLive) (p := noPlace) rfl rfl rfl rfl (bR.put7 _ _ _ _ _ _ _) ?_
                                  rw [HZ.out]
                                  exact LivePost.mk (LiveAt.none_ _) (Below.put7 hX9 (by omega) _ _ _ _ _ _ _)
                                | false =>
                                  have HCL : Hid (clash t ((o.tab L).take (j + 1)) = false) := clash_step HU.out hcl.out (by rw [hov, Bool.and_false])
                                  go_wp2_with fail
                                  refine HOV.out.mono ?_
                                  rintro _ w9 ⟨rfl, hb9⟩
                                  rw [hov]
                                  have hX9 := hXu.trans' hb9
                                  have bT9 := bTu.ext hb9
                                  have bU9 := bUu.ext hb9
                                  clear t0 t1 t2 t3 t4 t5 u0 u1 u2 u3 u4 u5 c0 c1 c2 c3 c4 c5 hb9
                                  have t1 := bT9.cell 1
                                  have t4 := bT9.cell 4
                                  have u4 := bU9.cell 4
                                  simp only [Table.cells, hL, List.getElem?_toArray, List.getElem?_cons_zero, List.getElem?_cons_succ] at t1 t4 u4
                                  cases hun : ltB u.least t.least with
                                  | true =>
                                    have HM1 : Hid (m + 1 = ((o.tab L).take (j + 1)).countP (ahead t)) := by
                                      have ha : ahead t u = true := by rw [HAU.out, if_neg hl0, hun]
                                      unfold Hid
                                      rw [count_step HU.out, ← hm.out, if_pos ha]
                                    have hun' : Op.bytesLess u.least t.least = _ := hun
                                    clear hm hcl hl0
                                    go_wp2
                                    exact ⟨⟨j + 1, m + 1, by omega, by simp, by simp, by omega, HM1, HCL, hX9⟩, by simp [intOf]; omega⟩
                                  | false =>
                                    have HM1 : Hid (m = ((o.tab L).take (j + 1)).countP (ahead t)) := by
                                      have ha : ¬ ahead t u = true := by rw [HAU.out, if_neg hl0, hun]; simp
                                      unfold Hid
                                      rw [count_step HU.out, ← hm.out, if_neg ha]
                                      rfl
                                    have hun' : Op.bytesLess u.least t.least = _ := hun
                                    clear hm hcl hl0
                                    go_wp2
                                    exact ⟨⟨j + 1, m, by omega, by simp, by simp, by omega, HM1, HCL, hX9⟩, by simp [intOf]; omega⟩
                            · obtain rfl : j = (o.tab L).length := by omega
                              have hC9 : Fr (fun b => b ≠ M ∧ b < O) w6 wr := HC7.out.ext_step hX
                              have own9 := HO7.out.ext hX
                              have bM9 := HB8.out.ext hX
                              have bO9 := bO7.ext hX
                              have bT9 := bT7.ext hX
                              have hz9 := hX.size
                              have hmc : m = (o.tab L).countP (ahead t) := by rw [hm.out, List.take_length]
                              have HCL : Hid (addAll putProg e.next e.add (keptOf v e) = addAll putProg e.next (e.add.drop (k + 1)) (o.set L (putProg (o.tab L) t))) := by
                                unfold Hid
                                have h := hcl.out
                                rw [List.take_length] at h
                                rw [HADD.out, if_neg (by rw [h]; exact Bool.noConfusion)]
                              have HPP : Hid (putProg (o.tab L) t = (o.tab L).take m ++ t :: (o.tab L).drop m) := by unfold Hid putProg; rw [hmc]
                              have hml : m ≤ (o.tab L).length := by rw [hmc]; exact List.countP_le_length
                              have hblk : ∀ g, ownBlk (q.A L) = some g → O + 1 ≤ g ∧ g < T := HBLK.out
                              have o1 := bO9.cell (3 + L)
                              rw [Live.cell _ _ hL4] at o1
                              have of := bO9.frozen
                              have t0 := bT9.cell 0
                              have t1 := bT9.cell 1
                              have t2 := bT9.cell 2
                              have t3 := bT9.cell 3
                              have t4 := bT9.cell 4
                              have t5 := bT9.cell 5
                              simp only [Table.cells, hL, List.getElem?_toArray, List.getElem?_cons_zero, List.getElem?_cons_succ] at t0 t1 t2 t3 t4 t5
                              clear hm hmc hcl HADD hX
                              have HB9 := Lib.hid bM9
                              clear bM9
                              go_wp2_with fail
                              obtain ⟨V, hV⟩ : ∃ V, wr.heap.size = V := ⟨_, rfl⟩
                              have hTV : T < V := by have := bT9.lt; omega
                              have hTC : t.cells.toArray = #[.int .u64 t.num, .int .i64 L, .int .i64 t.size, .int .i64 t.count, str t.least, str t.great] := by simp [Table.cells, hL]
                              have k0 : (0 : Int) ≤ (L : Int) := by omega
                              have k4 : (L : Int) < 4 := by omega
                              have hW1 := fun X => (((Fr.refl (S := fun _ => True) wr).drew).alloc X).size
                              have hTF : Fr (fun _ => True) wr wr.drew := (Fr.refl wr).drew
                              refine wp_region_sch (RS ((fun b => b = O ∨ b = T))) 9 [(0, true), (1, true), (2, true), (3, true), (4, true), (5, true), (6, false), (7, false), (8, true), (9, false)] (by kernel_rfl) (by kernel_rfl) RS.refl RS.trans (fun _ _ d _ _ h => by cases d <;> exact h) ?_
                              refine wpSch_q ?_ rfl rfl (fun w' hR => ?_) ?_
                              rotate_left
                              · (go_simp; first | rfl | rw [if_neg (by simp; omega)] | rw [if_neg (by omega)])
                              (try simp only [Act.put, List.setIfInBounds_toArray, List.set_cons_zero, List.set_cons_succ])
                              refine wpSch_q ?_ rfl rfl (fun w' hR => ?_) ?_
                              rotate_left
                              · (go_simp; first | rfl | rw [if_neg (by simp; omega)] | rw [if_neg (by omega)])
                              (try simp only [Act.put, List.setIfInBounds_toArray, List.set_cons_zero, List.set_cons_succ])
                              refine wpSch_q ?_ rfl rfl (fun w' hR => ?_) ?_
                              rotate_left
                              · (go_simp; first | rfl | rw [if_neg (by simp; omega)] | rw [if_neg (by omega)])
                              (try simp only [Act.put, List.setIfInBounds_toArray, List.set_cons_zero, List.set_cons_succ])
                              refine wpSch_q ?_ rfl rfl (fun w' hR => ?_) ?_
                              rotate_left
                              · (obtain ⟨hRs, hRc⟩ := hR; (try have hRd := fun o => hRc _ o rfl (by first | (simp; done) | (simp; omega) | omega)); (try have hRe := fun o => hRc _ o (Or.inl rfl) (by first | (simp; done) | (simp; omega) | omega)); (try have hRf := fun o => hRc _ o (Or.inr rfl) (by first | (simp; done) | (simp; omega) | omega)); (try have hRg := fun o => hRc _ o (Or.inr (Or.inl rfl)) (by first | (simp; done) | (simp; omega) | omega)); (try have hRh := fun o => hRc _ o (Or.inr (Or.inr rfl)) (by first | (simp; done) | (simp; omega) | omega)); go_simp; first | rfl | rw [if_neg (by simp; omega)] | rw [if_neg (by omega)])
                              (try simp only [Act.put, List.setIfInBounds_toArray, List.set_cons_zero, List.set_cons_succ])
                              refine wpSch_q ?_ rfl rfl (fun w' hR => ?_) ?_
                              rotate_left
                              · (go_simp; first | rfl | rw [if_neg (by simp; omega)] | rw [if_neg (by omega)])
                              (try simp only [Act.put, List.setIfInBounds_toArray, List.set_cons_zero, List.set_cons_succ])
                              refine wpSch_q ?_ rfl rfl (fun w' hR => ?_) ?_
                              rotate_left
                              · (obtain ⟨hRs, hRc⟩ := hR; (try have hRd := fun o => hRc _ o rfl (by first | (simp; done) | (simp; omega) | omega)); (try have hRe := fun o => hRc _ o (Or.inl rfl) (by first | (simp; done) | (simp; omega) | omega)); (try have hRf := fun o => hRc _ o (Or.inr rfl) (by first | (simp; done) | (simp; omega) | omega)); (try have hRg := fun o => hRc _ o (Or.inr (Or.inl rfl)) (by first | (simp; done) | (simp; omega) | omega)); (try have hRh := fun o => hRc _ o (Or.inr (Or.inr rfl)) (by first | (simp; done) | (simp; omega) | omega)); go_simp; first | rfl | rw [if_neg (by simp; omega)] | rw [if_neg (by omega)])
                              (try simp only [Act.put, List.setIfInBounds_toArray, List.set_cons_zero, List.set_cons_succ])
                              refine wpSch_e rfl rfl (fun K hK => ?_)
                              go_simp
                              refine hK _ _ (fun _ => RS.alloc _) ?_
                              clear hK K
                              (try simp only [Act.put, List.setIfInBounds_toArray, List.set_cons_zero, List.set_cons_succ])
                              refine wpSch_e rfl rfl (fun K hK => ?_)
                              go_simp
                              refine (insert_any (o.tab L) (by omega) t m hml (q.A L) (q.c L) (O + 1) V (wr.drew.alloc (.cells #[.int .u64 t.num, .int .i64 L, .int .i64 t.size, .int .i64 t.count, str t.least, str t.great] 53)) (((own9.row L hL4).fr hTF (fun _ _ _ => trivial)).alloc _) (by have := hW1 (.cells #[.int .u64 t.num, .int .i64 L, .int .i64 t.size, .int .i64 t.count, str t.least, str t.great] 53); omega) (by rw [hTC]; exact Box.new_at _ _ _ _ hV.symm) (fun e => by have := hblk _ e; omega)).mono ?_
                              rintro e w10 ⟨A2, c2', rfl, hown', hg, hat⟩
                              refine hK _ _ (fun _ => RS.fr (S' := (fun b => b = O ∨ b = T)) (Fr.of_grown hg (fun g e _ h => by have := hblk g e; omega)) (fun _ _ h => h)) ?_
                              clear hK K
                              (try simp only [Act.put, List.setIfInBounds_toArray, List.set_cons_zero, List.set_cons_succ])
                              (have hF : Fr (fun b => b < O + 1) wr w10 := (((Fr.refl wr).drew).alloc _).grown_step hg (fun g e _ h => by have := hblk g e; omega); have bO2 := bO9.fr hF (by omega); have bM10 := HB9.out.fr hF (by omega); have own3 := ((own9.fr hTF (fun _ _ _ => trivial)).alloc _).put hL4 hg hown' hat; have hC3 := hC9.step hF (fun _ _ h => Nat.lt_succ_of_lt h.2); clear o1 of t0 t1 t2 t3 t4 t5 hF hg hat hown'; have o1 := bO2.cell (3 + L); rw [Live.cell _ _ hL4] at o1; have of := bO2.frozen)
                              refine wpSch_q ?_ rfl rfl (fun w' hR => ?_) ?_
                              rotate_left
                              · (go_simp; first | rfl | rw [if_neg (by simp; omega)] | rw [if_neg (by omega)])
                              (try simp only [Act.put, List.setIfInBounds_toArray, List.set_cons_zero, List.set_cons_succ])
                              refine wpSch_e rfl rfl (fun K hK => ?_)
                              go_simp
                              refine hK _ _ (fun h => absurd rfl h) ?_
                              clear hK K
                              (try simp only [Act.put, List.setIfInBounds_toArray, List.set_cons_zero, List.set_cons_succ])
                              refine wpSch_nil ?_
                              have bO3 : Box (w10.setCell ⟨O, 3 + L, none⟩ (.slice A2 ((o.tab L).length + 1) c2')) O 48 ((o.set L (putProg (o.tab L) t)).cells (q.set L A2 c2')) := by
                                have h := bO2.put (3 + L) (.slice A2 ((o.tab L).length + 1) c2')
                                have hl : (putProg (o.tab L) t).length = (o.tab L).length + 1 := by rw [HPP.out]; simp; omega
                                rw [Live.cells_set _ _ hL4, hl]
                                exact h
                              rw [← HPP.out] at own3
                              have own4 := own3.setCell (p := ⟨O, 3 + L, none⟩) (Nat.lt_succ_self O) (.slice A2 ((o.tab L).length + 1) c2')
                              have hC4 := hC3.set (p := ⟨O, 3 + L, none⟩) (.slice A2 ((o.tab L).length + 1) c2') (fun _ h => Nat.lt_irrefl O h.2)
                              have bM11 := bM10.far (p := ⟨O, 3 + L, none⟩) (by show M ≠ O; omega) (.slice A2 ((o.tab L).length + 1) c2')
                              have hkl2 : ∀ i, i < 4 → ((o.set L (putProg (o.tab L) t)).tab i).length ≤ 549755813888 + (k + 1) := fun i hi => by
                                by_cases h : i = L
                                · subst h
                                  rw [Live.set_same, HPP.out]
                                  have := hkl i hi
                                  simp
                                  omega
                                · rw [Live.set_other _ _ h]
                                  have := hkl i hi
                                  omega
                              clear own3 hC3 bO2 bM10 o1 of k0 k4 hW1 hTF hTC hblk
                              go_wp2
                              exact ⟨⟨k + 1, n + 1, o.set L (putProg (o.tab L) t), q.set L A2 c2', by omega, by simp, by omega, bM11, bO3, own4, hkl2, hC4, HCL⟩, by simp [intOf]; omega⟩
                    · obtain rfl : k = e.add.length := by omega
                      have HZ : Hid (LivePost (applyWith putProg v e) = LivePost (o, 0)) := HAP.out (o, 0) (by
                        have h1 : addAll putProg e.next e.add (keptOf v e) = some o := by rw [hadd.out, List.drop_length]; rfl
                        simp [applyWith, HM.out, hlow, HDR.out, h1])
                      clear HAP hadd
                      have HBM := Lib.hid bM
                      clear bM
                      go_wp2_with (with_reducible refine wpList_clears rfl (.tmp 193) rfl Try.underlying100 HBM.out rfl ?_)
                      rintro w5 hg5
                      have hF5 : Fr (fun b => b ≠ M) wr w5 := Fr.of_grown hg5 (fun g e _ h => by cases e; exact h rfl)
                      have bO5 := bO.fr hF5 (by omega)
                      have own5 := hown.fr hF5 (fun b hb _ => by omega)
                      have hC5 := hC.step hF5 (fun _ _ h => h.1)
                      have bR := bR6.fr hC5 (by omega)
                      have hX5 := hOX _ hC5
                      have o0 := bO5.cell 0
                      have o1 := bO5.cell 1
                      have o2 := bO5.cell 2
                      have o3 := bO5.cell 3
                      have o4 := bO5.cell 4
                      have o5 := bO5.cell 5
                      have o6 := bO5.cell 6
                      have r0 := bR.cell 0
                      have r1 := bR.cell 1
                      have r2 := bR.cell 2
                      have r3 := bR.cell 3
                      have r4 := bR.cell 4
                      have r5 := bR.cell 5
                      have r6 := bR.cell 6
                      have rf := bR.frozen
                      simp only [Live.cells, List.getElem?_toArray, List.getElem?_cons_zero, List.getElem?_cons_succ] at o0 o1 o2 o3 o4 o5 o6 r0 r1 r2 r3 r4 r5 r6
                      clear hg5 hF5 bO hown hC hC5 HBM hkl
                      (try dsimp only); (repeat (first | go_values | go_skip | go_guarded | go_step | go_upon)); (try simp only [Exit.inBlock, Exit.then])
                      refine live_ret (v := o) (p := q) rfl rfl rfl rfl (bR.put7 _ _ _ _ _ _ _) ?_
                      rw [HZ.out]
                      exact LivePost.mk ((own5.put7 (by omega) _ _ _ _ _ _ _).at_ (by omega)) (Below.put7 hX5 (by omega) _ _ _ _ _ _ _)
end Go.Proofs.Yteplpgknnlehnaa
