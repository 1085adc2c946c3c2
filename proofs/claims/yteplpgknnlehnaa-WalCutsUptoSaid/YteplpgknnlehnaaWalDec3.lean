/- What a batch's bytes say (layer 5): the document's walk. -/
import Derived.Test.YteplpgknnlehnaaWalDec2
import Derived.Test.YteplpgknnlehnaaManDec3
namespace Go.Proofs.Yteplpgknnlehnaa
set_option linter.unusedSimpArgs false
set_option linter.unusedVariables false
open Go.RowKit

theorem rPut_val {s0 s1 s2 s3 : Rd} {t u : List UInt8} (h1 : readUint 1 s0 = (0, s1)) (h2 : readText 96 s1 = (t, s2)) (h3 : readText 16384 s2 = (u, s3)) : rPut s0 = (⟨t, u, false⟩, s3) := by
  unfold rPut
  rw [h1]
  dsimp only
  rw [h2]
  dsimp only
  rw [h3]
  rfl
theorem rPut_del {s0 s1 s2 : Rd} {t : List UInt8} (h1 : readUint 1 s0 = (1, s1)) (h2 : readText 96 s1 = (t, s2)) : rPut s0 = (⟨t, [], true⟩, s2) := by
  unfold rPut
  rw [h1]
  dsimp only
  rw [h2]
  rfl
theorem rPut_small (st : Rd) : (rPut st).1.key.length ≤ 96 ∧ (rPut st).1.val.length ≤ 16384 := by
  unfold rPut
  split
  · exact ⟨readText_most, readText_most⟩
  · exact ⟨readText_most, by simp⟩


set_option maxRecDepth 100000 in
set_option maxHeartbeats 800000 in
theorem decodeBatch_ref (l : List UInt8) (hl : l.length ≤ 1099511627776) (w : World) :
    Calls Try.prog 24 #[str l] w (BatPost (decodeBatch l) w) := by
  have HD : Hid (decodeBatch l = batchEnd (rBatch (l, false))) := rfl
  go_enter Try.func24, Try.ntmps24
  go_wp2_with fail
  obtain ⟨S, hS⟩ : ∃ S, w.heap.size = S := ⟨_, rfl⟩
  obtain ⟨w0, hw0⟩ : ∃ w0, w0 = (w.alloc (.cells #[.int .u64 0, .slice none 0 0] 25)).alloc (.cells #[str l, .bool false] 93) := ⟨_, rfl⟩
  have bR0 : Box w0 S 25 #[.int .u64 0, .slice none 0 0] := by rw [hw0]; exact (Box.new_at _ _ _ _ hS.symm).alloc _
  have bG0 : Box w0 (S + 1) 93 #[str (l, false).1, .bool (l, false).2] := by rw [hw0]; exact Box.new_at _ _ _ _ (by simp [hS])
  have hE0 : Ext w w0 := by rw [hw0]; (repeat (first | exact Below.refl _ _ | refine Ext.trans' ?_ (Ext.al _ _) | refine Ext.trans' ?_ (Ext.dr _) | refine Ext.trans' ?_ (by assumption)))
  rw [hS, ← hw0]
  clear hw0
  refine (readerUint_st 1125899906842624 (by omega) (S + 1) (l, false) (by simp; omega) w0 bG0).mono ?_
  rintro _ w3 ⟨n1, s1, H1, hn1, hl1, rfl, bG3, hc⟩
  dsimp only at hl1
  have bR3 := bR0.fr hc (by omega)
  have hE3 := Fr.ext ((Fr.of_ext (S := fun x => x < S) hE0).step hc (by omega)) (by omega)
  clear hc bR0 bG0 hE0
  go_wp2_with fail
  obtain ⟨E, hE⟩ : ∃ E, w3.heap.size = E := ⟨_, rfl⟩
  have hSE : S + 1 < E := by have := bG3.lt; omega
  (obtain ⟨w4, hw4⟩ : ∃ w4, w4 = World.alloc w3 (.cells #[.int .u64 n1, .slice none 0 0] 25) := ⟨_, rfl⟩); (have hbox_w4 : Box w4 (w3).heap.size 25 #[.int .u64 n1, .slice none 0 0] := by rw [hw4]; exact Box.new _ _ _); (have hE_w4 : Ext w3 w4 := by rw [hw4]; exact Ext.al _ _); (have hz_w4 : (w4).heap.size = (w3).heap.size + 1 := by rw [hw4]; simp); rw [← hw4]; clear hw4
  rw [hE] at hbox_w4 ⊢
  refine (readerUint_st 256 (by omega) (S + 1) s1 (by omega) w4 (bG3.ext hE_w4)).mono ?_
  rintro _ w5 ⟨m, s4, H4, hm, hl4, rfl, bG5, hc5⟩
  have bE5 := hbox_w4.fr hc5 (by omega)
  have bR5 := (bR3.ext hE_w4).fr hc5 (by omega)
  have hE5 := Fr.ext ((Fr.of_ext (S := fun x => x < S) (hE3.trans' hE_w4)).step hc5 (by omega)) (by omega)
  clear hc5 bR3 bG3 hbox_w4 hE_w4 hz_w4 hE3
  go_wp2_with fail
  go_loopw [7] (fun v wr => ∃ (k : Nat) (xs : List Put) (st : Rd) (A : Option Addr) (c : Nat), k ≤ m ∧ v = .int .u64 k ∧ Hid (iterS rPut k s4 = (xs, st)) ∧ st.1.length ≤ l.length ∧ Box wr (S + 1) 93 #[str st.1, .bool st.2] ∧
    Box wr S 25 #[.int .u64 0, .slice none 0 0] ∧ Box wr E 25 #[.int .u64 n1, .slice A xs.length c] ∧ Own wr (E + 1) 68 Put.cells 3 A c xs ∧ Ext w wr) (fun v _ => m - (intOf v).toNat)
  · exact ⟨0, [], s4, none, 0, by omega, rfl, rfl, by omega, bG5, bR5, bE5, Own.nil_, hE5⟩
  · clear bG5 bR5 bE5 hE5
    obtain ⟨k, xs, st, A, c, hk, rfl, hit, hlst, bG, bR, bE, hown, hX⟩ := hrel
    have hxl := iterS_len rPut k s4
    rw [hit.out] at hxl
    dsimp only at hxl
    have g1 := bG.cell 1
    simp only [List.getElem?_toArray, List.getElem?_cons_zero, List.getElem?_cons_succ] at g1
    by_cases hlt : k < m ∧ st.2 = false
    · obtain ⟨hlt, hst⟩ := hlt
      have HST := Lib.hid hst
      rw [hst] at g1
      clear hst
      go_wp2_with fail
      refine (readerUint_st 1 (by omega) (S + 1) st (by omega) wr bG).mono ?_
      rintro _ wa ⟨kd, r1, J1, ha1, hr1, rfl, bGa, hca⟩
      go_wp2_with fail
      refine (readerText_st 96 (by omega) (S + 1) r1 (by omega) wa bGa).mono ?_
      rintro _ wb ⟨t, r2, J2, ha2, hr2, rfl, bGb, hcb⟩
      obtain ⟨T, hT⟩ : ∃ T, wb.heap.size = T := ⟨_, rfl⟩
      have hcab := hca.trans hcb
      have bRb := bR.fr hcab (by omega)
      have bEb := bE.fr hcab (by omega)
      have hob := hown.fr hcab (fun b hb _ => by omega)
      have hXb := Fr.ext ((Fr.of_ext (S := fun x => x < S) hX).step hcab (by omega)) (by omega)
      have hET : E < T := by have := bEb.lt; omega
      have hAT : ownBlk A ≠ some T := fun e => by have := hob.blk T e; omega
      clear hca hcb hcab bG bR bE hown hX bGa g1
      by_cases hkd : kd = 0
      · subst hkd
        go_wp2_with fail
        (obtain ⟨wc, hwc⟩ : ∃ wc, wc = World.alloc wb (.cells #[str t, str [], .bool false] 68) := ⟨_, rfl⟩); (have hbox_wc : Box wc (wb).heap.size 68 #[str t, str [], .bool false] := by rw [hwc]; exact Box.new _ _ _); (have hE_wc : Ext wb wc := by rw [hwc]; exact Ext.al _ _); (have hz_wc : (wc).heap.size = (wb).heap.size + 1 := by rw [hwc]; simp); rw [← hwc]; clear hwc
        rw [hT] at hbox_wc
        refine (readerText_st 16384 (by omega) (S + 1) r2 (by omega) wc (bGb.ext hE_wc)).mono ?_
        rintro _ wd ⟨u, r3, J3, ha3, hr3, rfl, bGd, hcd⟩
        have hcc := (Fr.of_ext (S := fun x => x ≠ S + 1) hE_wc).trans hcd
        have bT := hbox_wc.fr hcd (by omega)
        have q1 : E ≠ T := by omega
        have q2 : S ≠ T := by omega
        have q3 : S + 1 ≠ T := by omega
        have bTz := bT.put 1 (str u)
        simp only [List.setIfInBounds_toArray, List.set_cons_zero, List.set_cons_succ] at bTz
        have bEz := (bEb.fr hcc (by omega)).far (p := ⟨T, 1, none⟩) q1 (str u)
        have bRz := (bRb.fr hcc (by omega)).far (p := ⟨T, 1, none⟩) q2 (str u)
        have bGz := bGd.far (p := ⟨T, 1, none⟩) q3 (str u)
        have hoz := (hob.fr hcc (fun b hb _ => by omega)).setCell (p := ⟨T, 1, none⟩) hAT (str u)
        have hXz := (Fr.ext ((Fr.of_ext (S := fun x => x < S) hXb).step hcc (by omega)) (by omega) : Ext w wd).setCell (p := ⟨T, 1, none⟩) (by simp; omega) (str u)
        have HIT := Lib.hid (iterS_next hit.out HST.out (rPut_val J1.out J2.out J3.out))
        have t1 := bT.cell 1
        have tf := bT.frozen
        simp only [List.getElem?_toArray, List.getElem?_cons_zero, List.getElem?_cons_succ] at t1
        clear bT bEb bRb hob hXb hcc hcd bGd bGb hbox_wc hE_wc hz_wc J1 J2 J3 hit HST
        have q1 : E ≠ T := by omega
        have hgo : ∀ g, ownBlk A = some g → E + 1 ≤ g := fun g e => (hoz.blk g e).1
        have hzz := bTz.lt
        have x0 := bTz.cell 0
        have x1 := bTz.cell 1
        have x2 := bTz.cell 2
        have y1 := bEz.cell 1
        have yf := bEz.frozen
        simp only [List.getElem?_toArray, List.getElem?_cons_zero, List.getElem?_cons_succ] at x0 x1 x2 y1
        go_wp2_with (at_builtin; refine wpList_push Try.putsOf rfl _ _ rfl (⟨t, u, false⟩ : Put) rfl hoz rfl (by first | rfl | (simp; done) | (simp; rfl) | (simp [hT]; done) | (simp [hT]; rfl)) rfl (Put.cells_len _) (Put.one _) (by omega) (by omega) (by omega) ?_)
        rintro A' c' w10 hown' hg
        have bE2 := (bEz.alloc (.cells (⟨t, u, false⟩ : Put).cells.toArray 68)).grown hg (fun e => by have := hgo _ e.symm; omega)
        have bR2 := (bRz.alloc (.cells (⟨t, u, false⟩ : Put).cells.toArray 68)).grown hg (fun e => by have := hgo _ e.symm; omega)
        have bG2 := (bGz.alloc (.cells (⟨t, u, false⟩ : Put).cells.toArray 68)).grown hg (fun e => by have := hgo _ e.symm; omega)
        have hX2 := hoz.below_push hXz (by omega) hXz.size hg
        clear bEz bRz bTz bGz hoz hXz hg hgo x0 x1 x2 y1 yf
        have y1 := bE2.cell 1
        have yf := bE2.frozen
        simp only [List.getElem?_toArray, List.getElem?_cons_zero, List.getElem?_cons_succ] at y1
        go_wp2
        have bE3 := bE2.put 1 (.slice A' (xs.length + 1) c')
        simp only [List.setIfInBounds_toArray, List.set_cons_zero, List.set_cons_succ] at bE3
        exact ⟨⟨k + 1, xs ++ [⟨t, u, false⟩], r3, A', c', by omega, by simp, HIT, by omega, bG2.far (p := ⟨E, 1, none⟩) (by simp; omega) _, bR2.far (p := ⟨E, 1, none⟩) (by simp; omega) _, by rw [List.length_append]; exact bE3,
          hown'.setCell (p := ⟨E, 1, none⟩) (fun e => by have := (hown'.blk E e).1; omega) _, hX2.setCell (p := ⟨E, 1, none⟩) (by simp; omega) _⟩, by simp [intOf]; omega⟩
      · obtain rfl : kd = 1 := by omega
        have bTz := Box.new_at wb 68 #[str t, str [], .bool true] T hT.symm
        have bEz := bEb.alloc (.cells #[str t, str [], .bool true] 68)
        have bRz := bRb.alloc (.cells #[str t, str [], .bool true] 68)
        have bGz := bGb.alloc (.cells #[str t, str [], .bool true] 68)
        have hoz := hob.alloc (.cells #[str t, str [], .bool true] 68)
        have hXz := hXb.alloc hXb.size (.cells #[str t, str [], .bool true] 68)
        have HIT := Lib.hid (iterS_next hit.out HST.out (rPut_del J1.out J2.out))
        clear bEb bRb hob hXb bGb J1 J2 hit HST
        have q1 : E ≠ T := by omega
        have hgo : ∀ g, ownBlk A = some g → E + 1 ≤ g := fun g e => (hoz.blk g e).1
        have hzz := bTz.lt
        have x0 := bTz.cell 0
        have x1 := bTz.cell 1
        have x2 := bTz.cell 2
        have y1 := bEz.cell 1
        have yf := bEz.frozen
        simp only [List.getElem?_toArray, List.getElem?_cons_zero, List.getElem?_cons_succ] at x0 x1 x2 y1
        go_wp2_with (at_builtin; refine wpList_push Try.putsOf rfl _ _ rfl (⟨t, [], true⟩ : Put) rfl hoz rfl (by first | rfl | (simp; done) | (simp; rfl) | (simp [hT]; done) | (simp [hT]; rfl)) rfl (Put.cells_len _) (Put.one _) (by omega) (by omega) (by omega) ?_)
        rintro A' c' w10 hown' hg
        have bE2 := (bEz.alloc (.cells (⟨t, [], true⟩ : Put).cells.toArray 68)).grown hg (fun e => by have := hgo _ e.symm; omega)
        have bR2 := (bRz.alloc (.cells (⟨t, [], true⟩ : Put).cells.toArray 68)).grown hg (fun e => by have := hgo _ e.symm; omega)
        have bG2 := (bGz.alloc (.cells (⟨t, [], true⟩ : Put).cells.toArray 68)).grown hg (fun e => by have := hgo _ e.symm; omega)
        have hX2 := hoz.below_push hXz (by omega) hXz.size hg
        clear bEz bRz bTz bGz hoz hXz hg hgo x0 x1 x2 y1 yf
        have y1 := bE2.cell 1
        have yf := bE2.frozen
        simp only [List.getElem?_toArray, List.getElem?_cons_zero, List.getElem?_cons_succ] at y1
        go_wp2
        have bE3 := bE2.put 1 (.slice A' (xs.length + 1) c')
        simp only [List.setIfInBounds_toArray, List.set_cons_zero, List.set_cons_succ] at bE3
        exact ⟨⟨k + 1, xs ++ [⟨t, [], true⟩], r2, A', c', by omega, by simp, HIT, by omega, bG2.far (p := ⟨E, 1, none⟩) (by simp; omega) _, bR2.far (p := ⟨E, 1, none⟩) (by simp; omega) _, by rw [List.length_append]; exact bE3,
          hown'.setCell (p := ⟨E, 1, none⟩) (fun e => by have := (hown'.blk E e).1; omega) _, hX2.setCell (p := ⟨E, 1, none⟩) (by simp; omega) _⟩, by simp [intOf]; omega⟩
    · have hend := iterS_end hit.out hk hlt
      have HIT := Lib.hid hend
      have hkm : k < m → st.2 = true := fun h => by
        cases h3 : st.2 with
        | true => rfl
        | false => exact absurd ⟨h, h3⟩ hlt
      clear hlt hit hend
      have hrb : rBatch (l, false) = (⟨n1, xs⟩, st) := by
        unfold rBatch
        rw [H1.out]; dsimp only
        rw [H4.out]; dsimp only
        rw [HIT.out]
      have hsm := iterS_all (f := rPut) (p := fun p : Put => p.key.length ≤ 96 ∧ p.val.length ≤ 16384) rPut_small m s4
      rw [HIT.out] at hsm
      have hsml : small xs := fun p hp => by have := hsm p hp; omega
      have HRT := Lib.hid (right_ref ⟨n1, xs⟩ (by unfold M64; dsimp only; omega) (by dsimp only; omega) hsml A c wr (hown.row.wide (Nat.zero_le _) (Nat.le_refl _)))
      have HRW := Lib.hid hown.row
      have hDD := HD.out
      rw [hrb] at hDD
      have HDD := Lib.hid hDD
      dsimp only at HRT
      obtain ⟨rb, hrb'⟩ : ∃ rb, decide (Batch.Right ⟨n1, xs⟩) = rb := ⟨_, rfl⟩
      rw [hrb'] at HRT
      have hbe : batchEnd (⟨n1, xs⟩, st) = if (st.2 || !st.1.isEmpty || !rb) = true then (noBatch, 3) else (⟨n1, xs⟩, 0) := by rw [← hrb', batchEnd]
      have HBE := Lib.hid (hDD.trans hbe)
      clear hrb hsm hsml hown hDD HD hrb' hbe H1 H4 HIT HDD
      have y0 := bE.cell 0
      have y1 := bE.cell 1
      simp only [List.getElem?_toArray, List.getElem?_cons_zero, List.getElem?_cons_succ] at y0 y1
      by_cases hlt : k < m
      all_goals
        first
        | (have hst := hkm hlt
           rw [hst] at g1
           clear hst hkm)
        | clear hkm
        go_wp2_with fail
        refine HRT.out.mono ?_
        rintro _ w7 ⟨rfl, hb7⟩
        have bR7 := bR.ext hb7
        have bE7 := bE.ext hb7
        have bG7 := bG.ext hb7
        have hX7 := hX.trans' hb7
        have HR7 := Lib.hid (HRW.out.below hb7 (Nat.le_refl _))
        have hz7 := hb7.size
        clear bR bE bG hX y0 y1 g1
        have y0 := bE7.cell 0
        have y1 := bE7.cell 1
        have r0 := bR7.cell 0
        have r1 := bR7.cell 1
        have rf := bR7.frozen
        have g0 := bG7.cell 0
        have g1 := bG7.cell 1
        simp only [List.getElem?_toArray, List.getElem?_cons_zero, List.getElem?_cons_succ] at y0 y1 r0 r1 g0 g1
        obtain ⟨sl, sb⟩ := st
        dsimp only at *
        by_cases hbad : (sb || !sl.isEmpty || !rb) = true
        · have HF := Lib.hid (HBE.out.trans (if_pos hbad))
          clear HBE
          cases sb with
          | true =>
            (try dsimp only); (repeat (first | go_values | go_skip | go_guarded | go_step | go_upon)); (try simp only [Exit.inBlock, Exit.then])
            exact bat_ret rfl rfl rfl rfl (bR7.put2 _ _) (by rw [HF.out]; exact BatPost.none (Below.put2 hX7 (Nat.le_of_eq hS) _ _))
          | false =>
            cases sl with
            | cons b sl =>
              (try dsimp only); (repeat (first | go_values | go_skip | go_guarded | go_step | go_upon)); (try simp only [Exit.inBlock, Exit.then])
              exact bat_ret rfl rfl rfl rfl (bR7.put2 _ _) (by rw [HF.out]; exact BatPost.none (Below.put2 hX7 (Nat.le_of_eq hS) _ _))
            | nil =>
              obtain rfl : rb = false := by simpa using hbad
              (try dsimp only); (repeat (first | go_values | go_skip | go_guarded | go_step | go_upon)); (try simp only [Exit.inBlock, Exit.then])
              exact bat_ret rfl rfl rfl rfl (bR7.put2 _ _) (by rw [HF.out]; exact BatPost.none (Below.put2 hX7 (Nat.le_of_eq hS) _ _))
        · have HF := Lib.hid (HBE.out.trans (if_neg hbad))
          clear HBE
          simp at hbad
          obtain ⟨⟨rfl, rfl⟩, rfl⟩ := hbad
          (try dsimp only); (repeat (first | go_values | go_skip | go_guarded | go_step | go_upon)); (try simp only [Exit.inBlock, Exit.then])
          exact bat_ret rfl rfl rfl rfl (bR7.put2 _ _) (by rw [HF.out]; exact BatPost.mk (b := ⟨n1, xs⟩) (HR7.out.put2 (by omega) (by omega) hz7 _ _) (Below.put2 hX7 (Nat.le_of_eq hS) _ _))
end Go.Proofs.Yteplpgknnlehnaa
