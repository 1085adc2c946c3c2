/- The walk of the statement WalCuts. -/
import Derived.Test.YteplpgknnlehnaaCuts
namespace Go.Proofs.Yteplpgknnlehnaa
set_option linter.unusedSimpArgs false
set_option linter.unusedVariables false
open Go.RowKit

set_option maxRecDepth 100000 in
set_option maxHeartbeats 800000 in
theorem walCuts_walk (L0 : List LB) (cut : Int) (hcut : I64 cut) (bh : List UInt8) (hL : L0.length ≤ 1048576) (hbh : bh.length ≤ 1048576) (hq : ∀ q ∈ L0, q.b.seq < M64 ∧ q.b.puts.length ≤ 1048576 ∧ small q.b.puts) (A0 : Option Addr) (c0 : Nat) (w : World) (hr : BatsR w A0 L0) :
    Calls Try.prog 9 #[.slice A0 L0.length c0, .int .i64 cut, str bh] w fun e w' => e = .returned (.bool true) ∧ Ext w w' := by
  obtain ⟨hc1, hc2⟩ := hcut
  have HR := Lib.hid (fun w' hb => BatsR.ext (w' := w') hr hb)
  have HQ := Lib.hid hq
  clear hr hq
  go_enter Try.func9, Try.ntmps9
  go_wp2_with fail
  go_loopw [7, 8, 9, 10, 11, 12] (fun v7 v8 v9 v10 v11 v12 wr => ∃ (i : Nat) (K : List LB) (whole en last : Nat) (A : Option Addr) (c : Nat), i ≤ L0.length ∧ v12 = .int .i64 i ∧ v7 = str (bytesOf K) ∧ v8 = .int .i64 whole ∧ v9 = .int .i64 en ∧ v10 = .int .u64 last ∧ v11 = .slice A K.length c ∧
    Hid (Chain 0 (K.map LB.b) last) ∧ last ≤ 1125899906843000 ∧ K.length ≤ i ∧ Hid (∀ q ∈ K, q ∈ L0) ∧ Hid (CutAt cut K whole en) ∧ (bytesOf K).length ≤ 262200 * i ∧ Own wr w.heap.size 25 LB.cells 2 A c K ∧ Ext w wr) (fun _ _ _ _ _ v _ => L0.length - (intOf v).toNat)
  · exact ⟨0, [], 0, 0, 0, none, 0, by omega, rfl, rfl, rfl, rfl, rfl, rfl, rfl, by omega, by simp, by simp [Hid], CutAt.start cut, by simp [bytesOf], Own.nil_, Below.refl _ _⟩
  · obtain ⟨i, K, whole, en, last, A, c, hi, rfl, rfl, rfl, rfl, rfl, rfl, hch, hlast, hK, hsub, hcat, hbl, hown, hX⟩ := hrel
    by_cases hlt : i < L0.length
    · obtain ⟨q, hqe⟩ : ∃ q, L0[i]? = some q := ⟨L0[i], List.getElem?_eq_getElem hlt⟩
      have hqm := List.mem_of_getElem? hqe
      have k1 := HR.out _ hX
      obtain ⟨b1, o1, rfl, -, hbw, hc⟩ := k1.1.elem LB.cells_len rfl hqe
      have a0 := hc 0 _ rfl
      have a1 := hc 1 _ rfl
      rw [Nat.add_zero] at a0
      have hr1 := k1.2 q hqm
      obtain ⟨p1, p2, p3⟩ := HQ.out q hqm
      obtain ⟨b, qA, qc, qlo, qhi⟩ := q
      dsimp only at hr1 p1 p2 p3 a0 a1
      have HENC := Lib.hid (fun w hr => encode_any b p1 (by omega) p3 qA qc w hr)
      have HRT := Lib.hid (fun w hr => right_ref b p1 (by omega) p3 qA qc w hr)
      have HQM := Lib.hid hqm
      clear hc k1 hqe hqm
      by_cases hR : b.Right
      · have hs := hR.seq
        have hn1 := hR.2.1
        have hn2 := (wcheck_parts hR.1).1
        have hel := enc_len hR
        rw [encodeBatch_right hR] at HENC
        rw [decide_eq_true hR] at HRT
        have HLAST := Lib.hid (fun w => last_ref b.seq b.puts.length qc qA hs (by omega) (by omega) w)
        have HRR := Lib.hid hR
        clear hR
        obtain ⟨bs, ps⟩ := b
        dsimp only at *
        have HA0 := Lib.hid a0
        have HA1 := Lib.hid a1
        go_wp2_with fail
        refine (HENC.out _ hr1).mono ?_
        rintro _ w1 ⟨rfl, hb1⟩
        dsimp only
        have a0' := (hb1.cell (p := ⟨b1, o1 + i * 2, none⟩) hbw).trans a0
        have a1' := (hb1.cell (p := ⟨b1, o1 + i * 2 + 1, none⟩) hbw).trans a1
        have hr2 := (hr1.below hb1 (Nat.le_refl _)).wide (Nat.le_refl _) hb1.size
        go_wp2_with fail
        refine (HRT.out _ hr2).mono ?_
        rintro _ w2 ⟨rfl, hb2⟩
        have hb12 := hb1.trans' hb2
        have y0 := (hb12.cell (p := ⟨b1, o1 + i * 2, none⟩) hbw).trans a0
        have y1 := (hb12.cell (p := ⟨b1, o1 + i * 2 + 1, none⟩) hbw).trans a1
        have hz12 := hb12.size
        have ho2 := hown.ext hb12
        have hX2 := hX.trans' hb12
        clear a0 a1 a0' a1' hr1 hr2 hb1 hb2 hown hX
        by_cases hsq : last < bs
        · have HCH := Lib.hid (hch.out.snoc HRR.out hsq)
          have HSUB : Hid (∀ x ∈ K ++ [(⟨⟨bs, ps⟩, qA, qc, qlo, qhi⟩ : LB)], x ∈ L0) := fun x hx => by
            rcases List.mem_append.1 hx with h | h
            · exact hsub.out x h
            · rw [List.mem_singleton.1 h]; exact HQM.out
          have HBS := Lib.hid (bytesOf_snoc K ⟨⟨bs, ps⟩, qA, qc, qlo, qhi⟩)
          obtain ⟨t, ht⟩ : ∃ t, enc ⟨bs, ps⟩ = t := ⟨_, rfl⟩
          rw [ht] at hel ⊢
          have HT := Lib.hid ht
          obtain ⟨hel1, hel2⟩ := hel
          clear ht hch
          go_wp2_with fail
          refine (HLAST.out _).mono ?_
          rintro _ w3 ⟨rfl, hb3⟩
          have hb123 := hb12.trans' hb3
          have z0 := (hb123.cell (p := ⟨b1, o1 + i * 2, none⟩) hbw).trans HA0.out
          have z1 := (hb123.cell (p := ⟨b1, o1 + i * 2 + 1, none⟩) hbw).trans HA1.out
          have ho3 := ho2.ext hb3
          have hX3 := hX2.trans' hb3
          clear y0 y1 ho2 hX2 hb3 hb123
          go_wp2_with (at_builtin; refine wpList_push Try.batchesOf rfl _ _ rfl (⟨⟨bs, ps⟩, qA, qc, qlo, qhi⟩ : LB) rfl ho3 rfl (by first | rfl | (simp; done) | (simp; rfl)) rfl (LB.cells_len _) (LB.one _) (by omega) (by omega) hX3.size ?_)
          rintro A' c' w10 hown' hg
          have hX10 := ho3.below_push hX3 (Nat.le_refl _) hX3.size hg
          have hlen : ((bytesOf (K ++ [⟨⟨bs, ps⟩, qA, qc, qlo, qhi⟩])).length : Int) = ((bytesOf K).length : Int) + (t.length : Int) := by rw [HBS.out, List.length_append]; (try dsimp only); rw [HT.out]; push_cast; rfl
          by_cases hcc : ((bytesOf K).length : Int) + (t.length : Int) ≤ cut
          · have HC := Lib.hid (CutAt.yes (K := K) (q := ⟨⟨bs, ps⟩, qA, qc, qlo, qhi⟩) (cut := cut) (by rw [hlen]; exact hcc))
            have HLEN := Lib.hid hlen
            clear hcat hlen
            go_wp2
            exact ⟨⟨i + 1, K ++ [⟨⟨bs, ps⟩, qA, qc, qlo, qhi⟩], K.length + 1, _, lastOf ⟨bs, ps⟩, A', c', by omega, by simp, by rw [HBS.out]; (try dsimp only); rw [HT.out]; simp [ByteArray.mk_append_mk], by simp, by rw [HLEN.out], by simp [lastOf], by simp,
              by unfold Hid; rw [List.map_append]; exact HCH.out, by simp [lastOf]; omega, by simp; omega, HSUB, HC, by rw [HBS.out, List.length_append]; (try dsimp only); rw [HT.out]; omega, hown', hX10⟩, by simp [intOf]; omega⟩
          · have HC := Lib.hid (hcat.out.no (q := ⟨⟨bs, ps⟩, qA, qc, qlo, qhi⟩) (by rw [hlen]; omega))
            clear hcat hlen
            go_wp2
            exact ⟨⟨i + 1, K ++ [⟨⟨bs, ps⟩, qA, qc, qlo, qhi⟩], whole, en, lastOf ⟨bs, ps⟩, A', c', by omega, by simp, by rw [HBS.out]; (try dsimp only); rw [HT.out]; simp [ByteArray.mk_append_mk], by simp, by simp, by simp [lastOf], by simp,
              by unfold Hid; rw [List.map_append]; exact HCH.out, by simp [lastOf]; omega, by simp; omega, HSUB, HC, by rw [HBS.out, List.length_append]; (try dsimp only); rw [HT.out]; omega, hown', hX10⟩, by simp [intOf]; omega⟩
        · go_wp2
          exact ⟨⟨i + 1, K, whole, en, last, A, c, by omega, by simp, rfl, rfl, rfl, rfl, rfl, hch, hlast, by omega, hsub, hcat, by omega, ho2, hX2⟩, by simp [intOf]; omega⟩
      · rw [encodeBatch_wrong hR] at HENC
        rw [decide_eq_false hR] at HRT
        clear hR
        obtain ⟨bs, ps⟩ := b
        dsimp only at *
        go_wp2_with fail
        refine (HENC.out _ hr1).mono ?_
        rintro _ w1 ⟨rfl, hb1⟩
        dsimp only
        have a0' := (hb1.cell (p := ⟨b1, o1 + i * 2, none⟩) hbw).trans a0
        have a1' := (hb1.cell (p := ⟨b1, o1 + i * 2 + 1, none⟩) hbw).trans a1
        have hr2 := (hr1.below hb1 (Nat.le_refl _)).wide (Nat.le_refl _) hb1.size
        go_wp2_with fail
        refine (HRT.out _ hr2).mono ?_
        rintro _ w2 ⟨rfl, hb2⟩
        have hb12 := hb1.trans' hb2
        have ho2 := hown.ext hb12
        have hX2 := hX.trans' hb12
        clear a0 a1 a0' a1' hr1 hr2 hb1 hb2 hown hX
        go_wp2
        exact ⟨⟨i + 1, K, whole, en, last, A, c, by omega, by simp, rfl, rfl, rfl, rfl, rfl, hch, hlast, by omega, hsub, hcat, by omega, ho2, hX2⟩, by simp [intOf]; omega⟩
    · obtain rfl : i = L0.length := by omega
      have hcn := cutN_eq cut (bytesOf K).length
      have hcl := cutN_le cut (bytesOf K).length
      have hKR : ∀ q ∈ K, q.b.Right := fun q hq => hch.out.all q.b (List.mem_map_of_mem hq)
      obtain ⟨rest, hs, hrest⟩ := hcat.out.split hKR
      obtain ⟨q', hch'⟩ := hch.out.take whole
      rw [← List.map_take] at hch'
      obtain ⟨F', hF', hrun⟩ := replay_cut hch' rest hrest
      have hw := hcat.out.le
      have hen := hcat.out.eq_
      obtain ⟨cn, hcn'⟩ : ∃ cn, cutN cut (bytesOf K).length = cn := ⟨_, rfl⟩
      rw [hcn'] at hcn hcl hs
      have hx0 : (⟨(bytesOf K).toArray⟩ : ByteArray).extract 0 cn = ⟨(bytesOf (K.take whole) ++ rest).toArray⟩ := by rw [ba_extract, ← hs]; simp
      have hsl : (bytesOf (K.take whole) ++ rest).length ≤ (bytesOf K).length := by rw [← hs, List.length_take]; omega
      have hbe : ((K.take whole).map LB.b).flatMap enc = bytesOf (K.take whole) := rfl
      rw [hbe] at hF' hrun
      have hcap := hown.cap
      have HRP := Lib.hid (fun w => replay_any (bytesOf (K.take whole) ++ rest) (by omega) w)
      have HRP2 := Lib.hid (fun w => replay_any ((bytesOf (K.take whole) ++ rest) ++ bh) (by rw [List.length_append]; omega) w)
      have HW := Lib.hid (replay_whole hch' (rest ++ bh))
      have HPB : Hid (∀ W', Ext wr W' → BatsR W' A (K.take whole)) := fun W' hb => BatsR.ext ⟨(hown.row.wide (Nat.zero_le _) (Nat.le_refl _)).take_ LB.cells_len hw, fun q hq => (HR.out _ hX).2 q (hsub.out q (List.mem_of_mem_take hq))⟩ hb
      have HPP : Hid (∀ q ∈ K.take whole, q.b.puts.length ≤ 1099511627776) := fun q hq => by
        have := (HQ.out q (hsub.out q (List.mem_of_mem_take hq))).2.1
        omega
      have HF := Lib.hid hF'
      have HRUN := Lib.hid hrun
      have HEN := Lib.hid hen
      have hA := hown.nil_or
      obtain ⟨sC, hsC⟩ : ∃ sC, bytesOf (K.take whole) ++ rest = sC := ⟨_, rfl⟩
      rw [hsC] at hx0 hsl HRP HRP2 HF
      have HSC := Lib.hid hsC
      clear hcn' hs hrest hF' hrun hen hKR hch' hbe hsC hch hcat hsub hown
      go_wp2_with fail
      refine (HRP.out _).mono ?_
      rintro _ w1 ⟨F1, fin1, L1, A1, c1, B1, hf1, rfl, hm1, hb1, hn1, -, hX1⟩
      obtain ⟨rfl, rfl⟩ := HF.out.unique hf1
      rw [HRUN.out] at hm1 ⊢
      dsimp only at hm1 ⊢
      rw [← HEN.out]
      have HM1 := Lib.hid hm1
      have hlen1 : L1.length = whole := by have := congrArg List.length hm1; simp at this; omega
      have hl1 : L1.length ≤ whole := by omega
      have hl2 : whole ≤ L1.length := by omega
      have HR1 : Hid (∀ W', Ext w1 W' → BatsR W' A1 L1) := fun W' hb => (hb1.plain).ext hb
      have HPP1 : Hid (∀ q ∈ L1, q.b.puts.length ≤ 1099511627776) := fun q hq => by
        have h1 : q.b ∈ (K.take whole).map LB.b := by rw [← hm1]; exact List.mem_map_of_mem hq
        obtain ⟨q2, h2, h3⟩ := List.mem_map.1 h1
        rw [← h3]
        exact HPP.out q2 h2
      clear hm1 hlen1 hf1 hb1
      go_wp2_with fail
      have HS1 := Lib.hid (fun w h1 h2 => sameBatches_yes L1 (K.take whole) HM1.out (by omega) HPP1.out A1 A c1 c w h1 h2)
      have hlt1 : (K.take whole).length = whole := by simp; omega
      rw [hlt1] at HS1
      refine (HS1.out _ (HR1.out _ (Below.refl _ _)) (HPB.out _ hX1)).mono ?_
      rintro _ w2 ⟨rfl, hX2⟩
      have hX12 := hX1.trans' hX2
      clear hX1 hX2 HS1
      go_wp2_with fail
      rw [show (⟨sC.toArray⟩ : ByteArray) ++ ⟨bh.toArray⟩ = ⟨(sC ++ bh).toArray⟩ from by simp [ByteArray.mk_append_mk]]
      refine (HRP2.out _).mono ?_
      rintro _ w3 ⟨F2, fin2, L2, A2, c2, B2, hf2, rfl, hm2, hb2, hn2, -, hX3⟩
      obtain ⟨F3, fin3, tt, hf3, hrun3⟩ := HW.out
      have hsc : ((K.take whole).map LB.b).flatMap enc ++ (rest ++ bh) = sC ++ bh := by rw [← HSC.out, List.append_assoc]; rfl
      rw [hsc] at hf3
      obtain ⟨rfl, rfl⟩ := hf3.unique hf2
      rw [hrun3] at hm2
      obtain ⟨e2, he2⟩ : ∃ e2, (runR fin3 ([], 0) F3).2 = e2 := ⟨_, rfl⟩
      rw [he2]
      have hl3 : whole ≤ L2.length := by have := congrArg List.length hm2; simp at this; omega
      have hmt : (L2.take whole).map LB.b = (K.take whole).map LB.b := by
        rw [List.map_take, hm2, List.take_append_of_le_length (by simp; omega), List.take_of_length_le (by simp; omega)]
      have hcap2 := hb2.1.cap
      have hP2 : ∀ q ∈ L2.take whole, q.b.puts.length ≤ 1099511627776 := fun q hq => by
        have h1 : q.b ∈ (K.take whole).map LB.b := by rw [← hmt]; exact List.mem_map_of_mem hq
        obtain ⟨q2, h2, h3⟩ := List.mem_map.1 h1
        rw [← h3]
        exact HPP.out q2 h2
      have hlt2 : (L2.take whole).length = whole := by simp; omega
      have HS2 := Lib.hid (fun w h1 h2 => sameBatches_yes (L2.take whole) (K.take whole) hmt (by omega) hP2 A2 A c2 c w h1 h2)
      rw [hlt1, hlt2] at HS2
      have HB2 : Hid (BatsR w3 A2 (L2.take whole)) := (hb2.plain).take hl3
      have HB3 : Hid (BatsR w3 A (K.take whole)) := HPB.out _ (hX12.trans' hX3)
      have hX13 := hX12.trans' hX3
      clear hf2 hf3 hrun3 hm2 he2 hmt hP2 hb2 hX12 hX3 hlt1 hlt2 hsc HW HRP HRP2 HPP HPP1 HM1 HR1 HF HRUN HSC
      have j1 : (whole : Int) ≤ (c2 : Int) := by omega
      have j2 : (whole : Int) ≤ (c : Int) := by omega
      have j3 : (0 : Int) ≤ (whole : Int) := by omega
      go_wp2_with fail
      have HD2 : Hid (BatsR w3.drew A2 (L2.take whole)) := BatsR.ext HB2.out (Ext.dr w3)
      have HD3 : Hid (BatsR w3.drew A (K.take whole)) := BatsR.ext HB3.out (Ext.dr w3)
      refine wp_region_sch (RS ((fun _ => False))) 8 [(0, true), (1, true), (2, true), (3, true), (4, true), (5, true), (6, false), (7, true)] (by kernel_rfl) (by kernel_rfl) RS.refl RS.trans (fun _ _ d _ _ h => by cases d <;> exact h) ?_
      refine wpSch_q ?_ rfl rfl (fun w' hR => ?_) ?_
      rotate_left
      · (go_simp; first | rfl | rw [if_neg (by simp; omega)] | rw [if_neg (by omega)])
      (try simp only [Act.put, List.setIfInBounds_toArray, List.set_cons_zero, List.set_cons_succ])
      refine wpSch_q ?_ rfl rfl (fun w' hR => ?_) ?_
      rotate_left
      · (go_simp; first | rfl | rw [if_neg (by simp; omega)] | rw [if_neg (by omega)])
      (try simp only [Act.put, List.setIfInBounds_toArray, List.set_cons_zero, List.set_cons_succ])
      refine wpSch_q ?_ rfl rfl (fun w' hR => ?_) ?_
      rotate_left
      · (go_simp; first | rfl | rw [if_neg (by simp; omega)] | rw [if_neg (by omega)])
      (try simp only [Act.put, List.setIfInBounds_toArray, List.set_cons_zero, List.set_cons_succ])
      refine wpSch_q ?_ rfl rfl (fun w' hR => ?_) ?_
      rotate_left
      · (go_simp; first | rfl | rw [if_neg (by simp; omega)] | rw [if_neg (by omega)])
      (try simp only [Act.put, List.setIfInBounds_toArray, List.set_cons_zero, List.set_cons_succ])
      refine wpSch_q ?_ rfl rfl (fun w' hR => ?_) ?_
      rotate_left
      · (go_simp; first | rfl | rw [if_neg (by simp; omega)] | rw [if_neg (by omega)])
      (try simp only [Act.put, List.setIfInBounds_toArray, List.set_cons_zero, List.set_cons_succ])
      refine wpSch_q ?_ rfl rfl (fun w' hR => ?_) ?_
      rotate_left
      · (go_simp; first | rfl | rw [if_neg (by simp; omega)] | rw [if_neg (by omega)])
      (try simp only [Act.put, List.setIfInBounds_toArray, List.set_cons_zero, List.set_cons_succ])
      refine wpSch_e rfl rfl (fun K hK => ?_)
      go_simp
      refine (HS2.out _ HD2.out HD3.out).mono ?_
      rintro e w4 ⟨rfl, hb4⟩
      refine hK _ _ (fun _ => RS.ext hb4) ?_
      clear hK K
      (try simp only [Act.put, List.setIfInBounds_toArray, List.set_cons_zero, List.set_cons_succ])
      refine wpSch_q ?_ rfl rfl (fun w' hR => ?_) ?_
      rotate_left
      · (go_simp; first | rfl | rw [if_neg (by simp; omega)] | rw [if_neg (by omega)])
      (try simp only [Act.put, List.setIfInBounds_toArray, List.set_cons_zero, List.set_cons_succ])
      refine wpSch_nil ?_
      go_wp2
      go_ret
      exact ⟨by simp, (hX.trans' hX13).trans' ((Ext.dr _).trans' hb4)⟩
end Go.Proofs.Yteplpgknnlehnaa
