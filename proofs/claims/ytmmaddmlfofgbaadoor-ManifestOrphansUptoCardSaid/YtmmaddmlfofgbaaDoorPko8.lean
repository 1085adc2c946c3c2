/- Parts of this work, one behind the other: Apl6. -/
import Derived.BigGuardPart
import Derived.Test.YtmmaddmlfofgbaaDoorPko6
/- What an edit makes of the tables that live (layer 10): the document's walk. -/
namespace Go.Proofs.YtmmaddmlfofgbaaDoor
set_option linter.unusedSimpArgs false
set_option linter.unusedVariables false
open Go.RowKit

theorem over_comm (t u : Table) : (!ltB u.great t.least && !ltB t.great u.least) = overB t u := by unfold overB; rw [Bool.and_comm]
theorem putRef_len (l : List Table) (t : Table) : (putRef l t).length = l.length + 1 := by
  have := congrArg List.length (List.takeWhile_append_dropWhile (p := ahead t) (l := l))
  simp only [List.length_append] at this
  simp [putRef]
  omega
theorem numsTo_few (v : Live) {B : Nat} (hl : ∀ k, k < 4 → (v.tab k).length ≤ B) : (numsOf v).length ≤ 4 * B := by
  have h0 := hl 0 (by omega)
  have h1 := hl 1 (by omega)
  have h2 := hl 2 (by omega)
  have h3 := hl 3 (by omega)
  have e : (numsOf v).length = (v.tab 0).length + (v.tab 1).length + (v.tab 2).length + (v.tab 3).length := by
    unfold numsOf
    rw [numsTo_succ, numsTo_succ, numsTo_succ, numsTo_succ]
    simp [numsTo, Nat.add_assoc]
  omega
theorem Row.take {α : Type} {f : α → List Value} {w : World} {lo hi sz : Nat} {A : Option Addr} {l : List α} (hf : ∀ x, (f x).length = sz) (h : Row w lo hi sz A l.length (l.flatMap f)) {k : Nat} (hk : k ≤ l.length) : Row w lo hi sz A k ((l.take k).flatMap f) :=
  ⟨by rw [length_flatMap' hf, List.length_take, Nat.min_eq_left hk], fun h0 => by
    obtain ⟨b, off, h1, h2, h3, h4⟩ := h.mem (by omega)
    exact ⟨b, off, h1, h2, h3, fun j u hj => h4 j u (part_take l k j hj)⟩⟩
set_option maxRecDepth 100000 in
set_option maxHeartbeats 6000000 in
theorem apply_ref (v : Live) (p : Place) (e : Edit) (hok : e.Ok) (hl : ∀ k, k < 4 → (v.tab k).length ≤ 137438953472) (A A' : Option Addr) (c c' : Nat) (hcd : e.drop.length ≤ c') (w : World) (hat : EditAt w w.heap.size e A A') (hlat : LiveAt w v p) :
    Calls Tryd.prog 8 #[.agg (v.cells p), e.val A A' c c'] w (LivePost (applyWith putRef v e) w) := by
  have HL := Lib.hid (fun w' (hb : Ext w w') k hk => (hlat k hk).below hb (Nat.le_refl _))
  have HE := Lib.hid (fun w' (hb : Ext w w') => hat.ext hb)
  have HMAY := Lib.hid (fun w' (hb : Ext w w') => editMay_ref e hok A A' c c' w' (hat.ext hb))
  have HNUMS := Lib.hid (fun w' (hb : Ext w w') => numbers_ref v p (fun k hk => Nat.le_trans (hl k hk) (by omega)) w' (hlat.ext hb))
  have HLEN := Lib.hid hl
  have hal := hok.addLen
  have hdl := hok.dropLen
  have HOK := Lib.hid hok
  have HAP : Hid (∀ r, r = applyWith putRef v e → LivePost (applyWith putRef v e) = LivePost r) := fun r hr => by rw [hr]
  clear hl hat hlat hok
  go_enter Tryd.func8, Tryd.ntmps8
  dsimp only [Edit.val]
  go_wp2_with fail
  obtain ⟨S, hS⟩ : ∃ S, w.heap.size = S := ⟨_, rfl⟩
  (obtain ⟨w0, hw0⟩ : ∃ w0, w0 = World.alloc w (.cells (v.cells p) 28) := ⟨_, rfl⟩); (have hbox_w0 : Box w0 (w).heap.size 28 (v.cells p) := by rw [hw0]; exact Box.new _ _ _); (have hE_w0 : Ext w w0 := by rw [hw0]; exact Ext.al _ _); (have hz_w0 : (w0).heap.size = (w).heap.size + 1 := by rw [hw0]; simp); rw [← hw0]; clear hw0
  (obtain ⟨w1, hw1⟩ : ∃ w1, w1 = World.alloc w0 (.cells #[.int .u64 e.next, .int .u64 e.seq, .int .u64 e.log, .slice A e.add.length c, .slice A' e.drop.length c'] 39) := ⟨_, rfl⟩); (have hbox_w1 : Box w1 (w0).heap.size 39 #[.int .u64 e.next, .int .u64 e.seq, .int .u64 e.log, .slice A e.add.length c, .slice A' e.drop.length c'] := by rw [hw1]; exact Box.new _ _ _); (have hE_w1 : Ext w0 w1 := by rw [hw1]; exact Ext.al _ _); (have hz_w1 : (w1).heap.size = (w0).heap.size + 1 := by rw [hw1]; simp); rw [← hw1]; clear hw1
  (obtain ⟨w2, hw2⟩ : ∃ w2, w2 = World.alloc w1 (.cells #[.int .u64 0, .int .u64 0, .int .u64 0, .slice none 0 0, .slice none 0 0, .slice none 0 0, .slice none 0 0] 28) := ⟨_, rfl⟩); (have hbox_w2 : Box w2 (w1).heap.size 28 #[.int .u64 0, .int .u64 0, .int .u64 0, .slice none 0 0, .slice none 0 0, .slice none 0 0, .slice none 0 0] := by rw [hw2]; exact Box.new _ _ _); (have hE_w2 : Ext w1 w2 := by rw [hw2]; exact Ext.al _ _); (have hz_w2 : (w2).heap.size = (w1).heap.size + 1 := by rw [hw2]; simp); rw [← hw2]; clear hw2
  have bS2 := (hbox_w0.ext hE_w1).ext hE_w2
  have bE2 := hbox_w1.ext hE_w2
  have hX2 := (hE_w0.trans' hE_w1).trans' hE_w2
  have bR2 := hbox_w2
  have hM2 : w2.heap.size = S + 3 := by omega
  rw [hz_w1, hz_w0, hS] at bR2
  rw [hz_w0, hS] at bE2
  rw [hS] at bS2 ⊢
  clear hbox_w0 hbox_w1 hbox_w2 hE_w0 hE_w1 hE_w2 hz_w0 hz_w1 hz_w2
  refine (HMAY.out w2 hX2).mono ?_
  rintro _ w3 ⟨rfl, hb3⟩
  have bS3 := bS2.ext hb3
  have bE3 := bE2.ext hb3
  have bR3 := bR2.ext hb3
  have hX3 := hX2.trans' hb3
  have hz3 := hb3.size
  clear bS2 bE2 bR2 hX2 hb3 HMAY
  have x0 := bS3.cell 0
  have x1 := bS3.cell 1
  have x2 := bS3.cell 2
  have x3 := bS3.cell 3
  have x4 := bS3.cell 4
  have x5 := bS3.cell 5
  have x6 := bS3.cell 6
  have y0 := bE3.cell 0
  have y1 := bE3.cell 1
  have y2 := bE3.cell 2
  have y3 := bE3.cell 3
  have y4 := bE3.cell 4
  have r0 := bR3.cell 0
  have r1 := bR3.cell 1
  have r2 := bR3.cell 2
  have r3 := bR3.cell 3
  have r4 := bR3.cell 4
  have r5 := bR3.cell 5
  have r6 := bR3.cell 6
  have rf := bR3.frozen
  simp only [Live.cells, List.getElem?_toArray, List.getElem?_cons_zero, List.getElem?_cons_succ] at x0 x1 x2 x3 x4 x5 x6 y0 y1 y2 y3 y4 r0 r1 r2 r3 r4 r5 r6
  cases hm : e.may with
  | false =>
    have HZ := Lib.hid (HAP.out (noLive, 1) (by simp [applyWith, hm]))
    clear HAP hm
    (try dsimp only); (repeat (first | go_values | go_skip | go_guarded | go_step | go_upon)); (try simp only [Exit.inBlock, Exit.then])
    refine live_ret (v := noLive) (p := noPlace) rfl rfl rfl rfl (bR3.put7 _ _ _ _ _ _ _) ?_
    rw [HZ.out]
    exact LivePost.mk (LiveAt.none_ _) (Below.put7 hX3 (by omega) _ _ _ _ _ _ _)
  | true =>
    by_cases hlow : e.next < v.next ∨ e.seq < v.seq ∨ e.log < v.log
    · have HZ := Lib.hid (HAP.out (noLive, 3) (by simp [applyWith, hm, hlow]))
      clear HAP hm
      have hc : (e.next < v.next ∨ ¬ e.next < v.next ∧ e.seq < v.seq) ∨ (¬ e.next < v.next ∧ ¬ e.seq < v.seq) ∧ e.log < v.log := by omega
      clear hlow
      rcases hc with (h1 | ⟨h1, h2⟩) | ⟨⟨h1, h2⟩, h3⟩
      all_goals
        (try dsimp only); (repeat (first | go_values | go_skip | go_guarded | go_step | go_upon)); (try simp only [Exit.inBlock, Exit.then])
        refine live_ret (v := noLive) (p := noPlace) rfl rfl rfl rfl (bR3.put7 _ _ _ _ _ _ _) ?_
        rw [HZ.out]
        exact LivePost.mk (LiveAt.none_ _) (Below.put7 hX3 (by omega) _ _ _ _ _ _ _)
    · have h1 : ¬ e.next < v.next := by omega
      have h2 : ¬ e.seq < v.seq := by omega
      have h3 : ¬ e.log < v.log := by omega
      go_wp2_with fail
      refine (HNUMS.out w3 hX3).mono ?_
      rintro _ w4 ⟨AN, cN, rfl, hrN, hb4⟩
      have bS4 := bS3.ext hb4
      have bE4 := bE3.ext hb4
      have bR4 := bR3.ext hb4
      have hX4 := hX3.trans' hb4
      have hz4 := hb4.size
      have HRN := Lib.hid (fun w' (hb : Ext w4 w') => (hrN.below hb (Nat.le_refl _)).wide (Nat.le_refl _) hb.size)
      have hnl : (numsOf v).length ≤ 549755813888 := numsTo_few v HLEN.out
      have HM := Lib.hid hm
      clear bS3 bE3 bR3 hX3 hb4 hrN HNUMS x0 x1 x2 x3 x4 x5 x6 y0 y1 y2 y3 y4 r0 r1 r2 r3 r4 r5 r6 rf hm h1 h2 h3
      go_wp2_with fail
      go_loopw [8] (fun i wr => ∃ k : Nat, k ≤ e.drop.length ∧ i = .int .i64 k ∧ Ext w4 wr ∧ Hid (dropsOk (numsOf v) [] e.drop = dropsOk (numsOf v) (e.drop.take k) (e.drop.drop k))) (fun i _ => e.drop.length - (intOf i).toNat)
      · exact ⟨0, by omega, rfl, Below.refl _ _, rfl⟩
      · obtain ⟨k, hk, rfl, hX, hdr⟩ := hrel
        have bE := bE4.ext hX
        have y4 := bE.cell 4
        simp only [List.getElem?_toArray, List.getElem?_cons_zero, List.getElem?_cons_succ] at y4
        by_cases hlk : k < e.drop.length
        · obtain ⟨d, hd⟩ : ∃ d, e.drop[k]? = some d := ⟨_, List.getElem?_eq_getElem hlk⟩
          have hrow := (HE.out _ (hX4.trans' hX)).drop
          obtain ⟨b, off, hA, -, hbw, hc⟩ := hrow.elem u64C_len rfl hd
          have c0 := hc 0 _ rfl
          rw [Nat.add_zero, Nat.mul_one] at c0
          have HDD : Hid (e.drop.drop k = d :: e.drop.drop (k + 1)) := by
            unfold Hid
            rw [List.drop_eq_getElem_cons hlk]
            rw [List.getElem?_eq_getElem hlk] at hd
            cases hd
            rfl
          have HTK : Hid (e.drop.take (k + 1) = e.drop.take k ++ [d]) := by
            unfold Hid
            rw [List.take_add_one, hd]
            rfl
          have hrk : ∀ w' (hb : Ext w4 w'), Row w' 0 w'.heap.size 1 (some ⟨b, off, none⟩) k ((e.drop.take k).flatMap u64C) := fun w' hb => by
            have := Row.take u64C_len (HE.out w' (hX4.trans' hb)).drop (Nat.le_of_lt hlk)
            rwa [hA] at this
          have hlt : (e.drop.take k).length = k := by rw [List.length_take]; omega
          have HA2 := Lib.hid (fun (w' : World) (hb : Ext w4 w') => (by
            have := among_any (e.drop.take k) (by omega) d (some ⟨b, off, none⟩) c' w' (by rw [hlt]; exact hrk w' hb)
            rw [hlt] at this
            exact this : Calls Tryd.prog 15 #[.slice (some ⟨b, off, none⟩) k c', .int .u64 d] w' fun e' w'' => e' = .returned (.bool (decide (d ∈ e.drop.take k))) ∧ w' = w''))
          rw [hA] at bE y4
          have HH := Lib.hid hA
          have hSw := bE.lt
          clear hd hc hrk hlt hrow
          obtain ⟨b1, hb1⟩ : ∃ b1, decide (d ∈ numsOf v) = b1 := ⟨_, rfl⟩
          obtain ⟨b2, hb2⟩ : ∃ b2, decide (d ∈ e.drop.take k) = b2 := ⟨_, rfl⟩
          have hc0 : ¬ (c' = 0) := by omega
          have k0 : (0 : Int) ≤ (k : Int) := by omega
          have k1 : (k : Int) ≤ (c' : Int) := by omega
          have k2 : (k : Int) < (e.drop.length : Int) := by omega
          rw [hA]
          go_wp2_with fail
          refine (among_any (numsOf v) (by omega) d AN cN wr (HRN.out _ hX)).mono ?_
          rintro _ w5 ⟨rfl, rfl⟩
          rw [hb1]
          rw [hb2] at HA2
          go_wp2_with fail
          refine wp_region_sch (RS ((fun x => x = S + 1 ∨ x = b))) 11 [(0, true), (1, true), (2, true), (3, true), (4, true), (5, true), (6, true), (7, true), (8, true), (9, false), (10, true)] (by kernel_rfl) (by kernel_rfl) RS.refl RS.trans (fun _ _ d _ _ h => by cases d <;> exact h) ?_
          refine wpSch_q ?_ rfl rfl (fun w' hR => ?_) ?_
          rotate_left
          · (go_simp; first | rfl | rw [if_neg (by simp; omega)] | rw [if_neg (by omega)])
          (try simp only [Act.put, List.setIfInBounds_toArray, List.set_cons_zero, List.set_cons_succ])
          refine wpSch_q ?_ rfl rfl (fun w' hR => ?_) ?_
          rotate_left
          · (obtain ⟨hRs, hRc⟩ := hR; (try have hRd := fun o => hRc _ o rfl (by first | (simp; done) | (simp; omega) | omega)); (try have hRe := fun o => hRc _ o (Or.inl rfl) (by first | (simp; done) | (simp; omega) | omega)); (try have hRf := fun o => hRc _ o (Or.inr rfl) (by first | (simp; done) | (simp; omega) | omega)); (try have hRg := fun o => hRc _ o (Or.inr (Or.inl rfl)) (by first | (simp; done) | (simp; omega) | omega)); (try have hRh := fun o => hRc _ o (Or.inr (Or.inr rfl)) (by first | (simp; done) | (simp; omega) | omega)); go_simp; first | rfl | rw [if_neg (by simp; omega)] | rw [if_neg (by omega)])
          (try simp only [Act.put, List.setIfInBounds_toArray, List.set_cons_zero, List.set_cons_succ])
          refine wpSch_q ?_ rfl rfl (fun w' hR => ?_) ?_
          rotate_left
          · (go_simp; first | rfl | rw [if_neg (by simp; omega)] | rw [if_neg (by omega)])
          (try simp only [Act.put, List.setIfInBounds_toArray, List.set_cons_zero, List.set_cons_succ])
          refine wpSch_q ?_ rfl rfl (fun w' hR => ?_) ?_
          rotate_left
          · (go_simp; first | rfl | rw [if_neg (by simp; omega)] | rw [if_neg (by omega)])
          (try simp only [Act.put, List.setIfInBounds_toArray, List.set_cons_zero, List.set_cons_succ])
          refine wpSch_q ?_ rfl rfl (fun w' hR => ?_) ?_
          rotate_left
          · (go_simp; first | rfl | rw [if_neg (by simp; omega)] | rw [if_neg (by omega)])
          (try simp only [Act.put, List.setIfInBounds_toArray, List.set_cons_zero, List.set_cons_succ])
          refine wpSch_q ?_ rfl rfl (fun w' hR => ?_) ?_
          rotate_left
          · (obtain ⟨hRs, hRc⟩ := hR; (try have hRd := fun o => hRc _ o rfl (by first | (simp; done) | (simp; omega) | omega)); (try have hRe := fun o => hRc _ o (Or.inl rfl) (by first | (simp; done) | (simp; omega) | omega)); (try have hRf := fun o => hRc _ o (Or.inr rfl) (by first | (simp; done) | (simp; omega) | omega)); (try have hRg := fun o => hRc _ o (Or.inr (Or.inl rfl)) (by first | (simp; done) | (simp; omega) | omega)); (try have hRh := fun o => hRc _ o (Or.inr (Or.inr rfl)) (by first | (simp; done) | (simp; omega) | omega)); go_simp; first | rfl | rw [if_neg (by simp; omega)] | rw [if_neg (by omega)])
          (try simp only [Act.put, List.setIfInBounds_toArray, List.set_cons_zero, List.set_cons_succ])
          refine wpSch_q ?_ rfl rfl (fun w' hR => ?_) ?_
          rotate_left
          · (go_simp; first | rfl | rw [if_neg (by simp; omega)] | rw [if_neg (by omega)])
          (try simp only [Act.put, List.setIfInBounds_toArray, List.set_cons_zero, List.set_cons_succ])
          refine wpSch_q ?_ rfl rfl (fun w' hR => ?_) ?_
          rotate_left
          · (go_simp; first | rfl | rw [if_neg (by simp; omega)] | rw [if_neg (by omega)])
          (try simp only [Act.put, List.setIfInBounds_toArray, List.set_cons_zero, List.set_cons_succ])
          refine wpSch_q ?_ rfl rfl (fun w' hR => ?_) ?_
          rotate_left
          · (obtain ⟨hRs, hRc⟩ := hR; (try have hRd := fun o => hRc _ o rfl (by first | (simp; done) | (simp; omega) | omega)); (try have hRe := fun o => hRc _ o (Or.inl rfl) (by first | (simp; done) | (simp; omega) | omega)); (try have hRf := fun o => hRc _ o (Or.inr rfl) (by first | (simp; done) | (simp; omega) | omega)); (try have hRg := fun o => hRc _ o (Or.inr (Or.inl rfl)) (by first | (simp; done) | (simp; omega) | omega)); (try have hRh := fun o => hRc _ o (Or.inr (Or.inr rfl)) (by first | (simp; done) | (simp; omega) | omega)); go_simp; first | rfl | rw [if_neg (by simp; omega)] | rw [if_neg (by omega)])
          (try simp only [Act.put, List.setIfInBounds_toArray, List.set_cons_zero, List.set_cons_succ])
          refine wpSch_e rfl rfl (fun K hK => ?_)
          go_simp
          refine (HA2.out wr.drew (hX.trans' (Ext.dr wr))).mono ?_
          rintro e w5 ⟨rfl, rfl⟩
          refine hK _ _ (fun _ => RS.refl _) ?_
          clear hK K
          (try simp only [Act.put, List.setIfInBounds_toArray, List.set_cons_zero, List.set_cons_succ])
          skip
          refine wpSch_q ?_ rfl rfl (fun w' hR => ?_) ?_
          rotate_left
          · (go_simp; first | rfl | rw [if_neg (by simp; omega)] | rw [if_neg (by omega)])
          (try simp only [Act.put, List.setIfInBounds_toArray, List.set_cons_zero, List.set_cons_succ])
          refine wpSch_nil ?_
          obtain ⟨wd, hwd⟩ : ∃ wd, wd = wr.drew := ⟨_, rfl⟩
          rw [← hwd]
          have hXd : Ext w4 wd := by rw [hwd]; exact hX.trans' (Ext.dr wr)
          clear hwd
          have hgood : b1 = true → b2 = false → Hid (dropsOk (numsOf v) [] e.drop = dropsOk (numsOf v) (e.drop.take (k + 1)) (e.drop.drop (k + 1))) := fun e1 e2 => by
            unfold Hid
            rw [hdr.out, HDD.out, dropsOk_step (of_decide_eq_true (hb1.trans e1)) (of_decide_eq_false (hb2.trans e2)), HTK.out]
          have hbad : ¬ (b1 = true ∧ b2 = false) → Hid (LivePost (applyWith putRef v e) = LivePost (noLive, 3)) := fun hn => HAP.out (noLive, 3) (by
            have h1 : dropsOk (numsOf v) [] e.drop = false := by
              rw [hdr.out, HDD.out]
              refine dropsOk_bad fun ⟨h1, h2⟩ => hn ⟨?_, ?_⟩
              · rw [← hb1]; exact decide_eq_true h1
              · rw [← hb2]; exact decide_eq_false h2
            simp [applyWith, HM.out, hlow, h1])
          have HGOOD := Lib.hid hgood
          have HBAD := Lib.hid hbad
          have bR := bR4.ext hXd
          have r0 := bR.cell 0
          have r1 := bR.cell 1
          have r2 := bR.cell 2
          have r3 := bR.cell 3
          have r4 := bR.cell 4
          have r5 := bR.cell 5
          have r6 := bR.cell 6
          have rf := bR.frozen
          simp only [List.getElem?_toArray, List.getElem?_cons_zero, List.getElem?_cons_succ] at r0 r1 r2 r3 r4 r5 r6
          have hX9 := hX4.trans' hXd
          clear hgood hbad HAP hb1 hb2 hdr hX bE y4 c0 k0 k1 k2 hSw hbw HA2 hA HDD HTK
          cases b1 with
          | true =>
            cases b2 with
            | false =>
              have HDR := HGOOD.out rfl rfl
              clear HGOOD HBAD bR r0 r1 r2 r3 r4 r5 r6 rf hX9
              go_wp2
              exact ⟨⟨k + 1, by omega, by simp, hXd, HDR⟩, by simp [intOf]; omega⟩
            | true =>
              have HZ := HBAD.out (by simp)
              clear HGOOD HBAD
              (try simp only [Exit.then]); (try go_at_K); (try dsimp only); (repeat (first | go_values | go_skip | go_guarded | go_step | go_upon)); (try simp only [Exit.inBlock, Exit.then])
              refine live_ret (v := noLive) (p := noPlace) rfl rfl rfl rfl (bR.put7 _ _ _ _ _ _ _) ?_
              rw [HZ.out]
              exact LivePost.mk (LiveAt.none_ _) (Below.put7 hX9 (by omega) _ _ _ _ _ _ _)
          | false =>
            have HZ := HBAD.out (by simp)
            clear HGOOD HBAD
            (try simp only [Exit.then]); (try go_at_K); (try dsimp only); (repeat (first | go_values | go_skip | go_guarded | go_step | go_upon)); (try simp only [Exit.inBlock, Exit.then])
            refine live_ret (v := noLive) (p := noPlace) rfl rfl rfl rfl (bR.put7 _ _ _ _ _ _ _) ?_
            rw [HZ.out]
            exact LivePost.mk (LiveAt.none_ _) (Below.put7 hX9 (by omega) _ _ _ _ _ _ _)
        · obtain rfl : k = e.drop.length := by omega
          have HDR : Hid (dropsOk (numsOf v) [] e.drop = true) := by
            unfold Hid
            rw [hdr.out, List.drop_length]
            rfl
          have bS := bS4.ext hX
          have hX5 := hX4.trans' hX
          obtain ⟨O, hO⟩ : ∃ O, wr.heap.size = O := ⟨_, rfl⟩
          obtain ⟨w6, hw6⟩ : ∃ w6, wr.alloc (.cells #[.int .u64 e.next, .int .u64 e.seq, .int .u64 e.log, .slice none 0 0, .slice none 0 0, .slice none 0 0, .slice none 0 0] 28) = w6 := ⟨_, rfl⟩
          have hSO : S + 3 ≤ O := by have := hX.size; omega
          have bO6 : Box w6 O 28 ((partOf v e 0 0).cells noPlace) := by
            rw [← hw6, Live.cells_congr (o := partOf v e 0 0) (o' := ⟨e.next, e.seq, e.log, fun _ => []⟩) noPlace rfl rfl rfl (partOf_zero v e)]
            exact Box.new_at _ _ _ _ hO.symm
          have hE6 : Ext wr w6 := by rw [← hw6]; exact Ext.al _ _
          have hX6 : Ext w w6 := hX5.trans' hE6
          have bS6 := bS.ext hE6
          have bE6 := bE.ext hE6
          have bR6 := (bR4.ext hX).ext hE6
          have y0 := bE.cell 0
          have y1 := bE.cell 1
          have y2 := bE.cell 2
          simp only [List.getElem?_toArray, List.getElem?_cons_zero, List.getElem?_cons_succ] at y0 y1 y2
          have HW6 := Lib.hid hw6
          clear hw6 hX5 hdr bS hE6 bS4 bE4 bR4 hX4 hk hlk hX HRN
          go_wp2_with fail
          rw [HW6.out]
          clear bE y0 y1 y2 y4
          have hOX : ∀ wr, Fr (fun b => b < O) w6 wr → Ext w wr := fun wr h => Fr.ext ((Fr.of_ext (S := fun x => x < S) hX6).step h (by omega)) (by omega)
          have hO6 := bO6.lt
          go_loopw [12] (fun i wr => ∃ (k : Nat) (q : Place), k ≤ 4 ∧ i = .int .i64 k ∧ Box wr O 28 ((partOf v e k 0).cells q) ∧ LOwn wr (O + 1) (partOf v e k 0) q ∧ Fr (fun b => b < O) w6 wr) (fun i _ => 4 - (intOf i).toNat)
          · exact ⟨0, noPlace, by omega, rfl, bO6, LOwn.none_ (partOf_zero v e), Fr.refl _⟩
          · obtain ⟨k, q, hk, rfl, bO, hown, hC⟩ := hrel
            by_cases hlt : k < 4
            · have hlk := HLEN.out k hlt
              have hd : decide ((k : Int) < 4) = true := by simp; omega
              go_wp2_with fail
              go_loopw [13] (fun i wr => ∃ (j : Nat) (q : Place), j ≤ (v.tab k).length ∧ i = .int .i64 j ∧ Box wr O 28 ((partOf v e k j).cells q) ∧ LOwn wr (O + 1) (partOf v e k j) q ∧ Fr (fun b => b < O) w6 wr) (fun i _ => (v.tab k).length - (intOf i).toNat)
              · exact ⟨0, q, by omega, rfl, bO, hown, hC⟩
              · clear bO hown hC
                obtain ⟨j, q, hj, rfl, bO, hown, hC⟩ := hrel
                have bS := bS6.fr hC (by omega)
                have s1 := bS.cell (3 + k)
                rw [Live.cell _ _ hlt] at s1
                have k0 : (0 : Int) ≤ (k : Int) := by omega
                have k4 : (k : Int) < 4 := by omega
                by_cases hlj : j < (v.tab k).length
                · obtain ⟨t, ht⟩ : ∃ t, (v.tab k)[j]? = some t := ⟨_, List.getElem?_eq_getElem hlj⟩
                  obtain ⟨b, off, hA, -, hbw, hc⟩ := (HL.out _ (hOX _ hC) k hlt).elem Table.cells_len rfl ht
                  have hbS : b < S := by omega
                  have c0 := hc 0 _ rfl
                  have c1 := hc 1 _ rfl
                  have c2 := hc 2 _ rfl
                  have c3 := hc 3 _ rfl
                  have c4 := hc 4 _ rfl
                  have c5 := hc 5 _ rfl
                  rw [Nat.add_zero] at c0
                  have HT := Lib.hid ht
                  rw [hA] at s1
                  have bE := bE6.fr hC (by omega)
                  have y4 := bE.cell 4
                  simp only [List.getElem?_toArray, List.getElem?_cons_zero, List.getElem?_cons_succ] at y4
                  have hSw : S + 3 < wr.heap.size := by have := bO.lt; omega
                  have j1 : (j : Int) < ((v.tab k).length : Int) := by omega
                  have j0 : (0 : Int) ≤ (j : Int) := by omega
                  have HAM := Lib.hid (fun (w' : World) (hb : Ext w w') => among_any e.drop (by omega) t.num A' c' w' (HE.out w' hb).drop)
                  obtain ⟨b1, hb1⟩ : ∃ b1, decide (t.num ∈ e.drop) = b1 := ⟨_, rfl⟩
                  rw [hb1] at HAM
                  have hXr := hOX _ hC
                  clear hc ht
                  go_wp2_with fail
                  refine wp_region_sch (RS ((fun x => x = S ∨ x = S + 1 ∨ x = b))) 12 [(0, true), (1, true), (2, true), (3, true), (4, true), (5, true), (6, true), (7, true), (8, true), (9, true), (10, false), (11, true)] (by kernel_rfl) (by kernel_rfl) RS.refl RS.trans (fun _ _ d _ _ h => by cases d <;> exact h) ?_
                  refine wpSch_q ?_ rfl rfl (fun w' hR => ?_) ?_
                  rotate_left
                  · (go_simp; first | rfl | rw [if_neg (by simp; omega)] | rw [if_neg (by omega)])
                  (try simp only [Act.put, List.setIfInBounds_toArray, List.set_cons_zero, List.set_cons_succ])
                  refine wpSch_q ?_ rfl rfl (fun w' hR => ?_) ?_
                  rotate_left
                  · (obtain ⟨hRs, hRc⟩ := hR; (try have hRd := fun o => hRc _ o rfl (by first | (simp; done) | (simp; omega) | omega)); (try have hRe := fun o => hRc _ o (Or.inl rfl) (by first | (simp; done) | (simp; omega) | omega)); (try have hRf := fun o => hRc _ o (Or.inr rfl) (by first | (simp; done) | (simp; omega) | omega)); (try have hRg := fun o => hRc _ o (Or.inr (Or.inl rfl)) (by first | (simp; done) | (simp; omega) | omega)); (try have hRh := fun o => hRc _ o (Or.inr (Or.inr rfl)) (by first | (simp; done) | (simp; omega) | omega)); go_simp; first | rfl | rw [if_neg (by simp; omega)] | rw [if_neg (by omega)])
                  (try simp only [Act.put, List.setIfInBounds_toArray, List.set_cons_zero, List.set_cons_succ])
                  refine wpSch_q ?_ rfl rfl (fun w' hR => ?_) ?_
                  rotate_left
                  · (go_simp; first | rfl | rw [if_neg (by simp; omega)] | rw [if_neg (by omega)])
                  (try simp only [Act.put, List.setIfInBounds_toArray, List.set_cons_zero, List.set_cons_succ])
                  refine wpSch_q ?_ rfl rfl (fun w' hR => ?_) ?_
                  rotate_left
                  · (go_simp; first | rfl | rw [if_neg (by simp; omega)] | rw [if_neg (by omega)])
                  (try simp only [Act.put, List.setIfInBounds_toArray, List.set_cons_zero, List.set_cons_succ])
                  refine wpSch_q ?_ rfl rfl (fun w' hR => ?_) ?_
                  rotate_left
                  · (go_simp; first | rfl | rw [if_neg (by simp; omega)] | rw [if_neg (by omega)])
                  (try simp only [Act.put, List.setIfInBounds_toArray, List.set_cons_zero, List.set_cons_succ])
                  refine wpSch_q ?_ rfl rfl (fun w' hR => ?_) ?_
                  rotate_left
                  · (obtain ⟨hRs, hRc⟩ := hR; (try have hRd := fun o => hRc _ o rfl (by first | (simp; done) | (simp; omega) | omega)); (try have hRe := fun o => hRc _ o (Or.inl rfl) (by first | (simp; done) | (simp; omega) | omega)); (try have hRf := fun o => hRc _ o (Or.inr rfl) (by first | (simp; done) | (simp; omega) | omega)); (try have hRg := fun o => hRc _ o (Or.inr (Or.inl rfl)) (by first | (simp; done) | (simp; omega) | omega)); (try have hRh := fun o => hRc _ o (Or.inr (Or.inr rfl)) (by first | (simp; done) | (simp; omega) | omega)); go_simp; first | rfl | rw [if_neg (by simp; omega)] | rw [if_neg (by omega)])
                  (try simp only [Act.put, List.setIfInBounds_toArray, List.set_cons_zero, List.set_cons_succ])
                  refine wpSch_q ?_ rfl rfl (fun w' hR => ?_) ?_
                  rotate_left
                  · (go_simp; first | rfl | rw [if_neg (by simp; omega)] | rw [if_neg (by omega)])
                  (try simp only [Act.put, List.setIfInBounds_toArray, List.set_cons_zero, List.set_cons_succ])
                  refine wpSch_q ?_ rfl rfl (fun w' hR => ?_) ?_
                  rotate_left
                  · (go_simp; first | rfl | rw [if_neg (by simp; omega)] | rw [if_neg (by omega)])
                  (try simp only [Act.put, List.setIfInBounds_toArray, List.set_cons_zero, List.set_cons_succ])
                  refine wpSch_q ?_ rfl rfl (fun w' hR => ?_) ?_
                  rotate_left
                  · (go_simp; first | rfl | rw [if_neg (by simp; omega)] | rw [if_neg (by omega)])
                  (try simp only [Act.put, List.setIfInBounds_toArray, List.set_cons_zero, List.set_cons_succ])
                  refine wpSch_q ?_ rfl rfl (fun w' hR => ?_) ?_
                  rotate_left
                  · (obtain ⟨hRs, hRc⟩ := hR; (try have hRd := fun o => hRc _ o rfl (by first | (simp; done) | (simp; omega) | omega)); (try have hRe := fun o => hRc _ o (Or.inl rfl) (by first | (simp; done) | (simp; omega) | omega)); (try have hRf := fun o => hRc _ o (Or.inr rfl) (by first | (simp; done) | (simp; omega) | omega)); (try have hRg := fun o => hRc _ o (Or.inr (Or.inl rfl)) (by first | (simp; done) | (simp; omega) | omega)); (try have hRh := fun o => hRc _ o (Or.inr (Or.inr rfl)) (by first | (simp; done) | (simp; omega) | omega)); go_simp; first | rfl | rw [if_neg (by simp; omega)] | rw [if_neg (by omega)])
                  (try simp only [Act.put, List.setIfInBounds_toArray, List.set_cons_zero, List.set_cons_succ])
                  refine wpSch_e rfl rfl (fun K hK => ?_)
                  go_simp
                  refine (HAM.out wr.drew (hXr.trans' (Ext.dr wr))).mono ?_
                  rintro e w5 ⟨rfl, rfl⟩
                  refine hK _ _ (fun _ => RS.refl _) ?_
                  clear hK K
                  (try simp only [Act.put, List.setIfInBounds_toArray, List.set_cons_zero, List.set_cons_succ])
                  skip
                  refine wpSch_q ?_ rfl rfl (fun w' hR => ?_) ?_
                  rotate_left
                  · (go_simp; first | rfl | rw [if_neg (by simp; omega)] | rw [if_neg (by omega)])
                  (try simp only [Act.put, List.setIfInBounds_toArray, List.set_cons_zero, List.set_cons_succ])
                  refine wpSch_nil ?_
                  have hCd : Fr (fun b => b < O) w6 wr.drew := hC.drew
                  have bOd : Box wr.drew O 28 ((partOf v e k j).cells q) := bO
                  have ownd : LOwn wr.drew (O + 1) (partOf v e k j) q := hown.fr ((Fr.refl (S := fun _ => True) wr).drew) (fun _ _ _ => trivial)
                  clear bO hown hC HAM bE y4
                  cases b1 with
                  | true =>
                    have HP := Lib.hid (partOf_goes (e := e) HT.out (of_decide_eq_true hb1))
                    clear hb1 c0 c1 c2 c3 c4 c5 s1 bS
                    go_wp2
                    exact ⟨⟨j + 1, q, by omega, by simp, by rw [HP.out]; exact bOd, by rw [HP.out]; exact ownd, hCd⟩, by simp [intOf]; omega⟩
                  | false =>
                    have HP := Lib.hid (partOf_stays (e := e) HT.out (of_decide_eq_false hb1))
                    have s2 : wr.drew.cell? ⟨S, 3 + k, none⟩ = some (.slice (some ⟨b, off, none⟩) (v.tab k).length (p.c k)) := s1
                    have hSz : wr.drew.heap.size = wr.heap.size := rfl
                    have o1 := bOd.cell (3 + k)
                    rw [Live.cell _ _ hlt] at o1
                    have of := bOd.frozen
                    have hblk : ∀ g, ownBlk (q.A k) = some g → O + 1 ≤ g := fun g e => ((ownd.row k hlt).blk g e).1
                    have hpl := partOf_len (e := e) hj
                    have hOw := bOd.lt
                    clear hb1
                    go_wp2_with fail
                    have hTF : Fr (fun _ => True) wr.drew wr.drew.drew := (Fr.refl wr.drew).drew
                    have hz9 : wr.drew.drew.heap.size = wr.heap.size := rfl
                    refine wp_region_sch (RS ((fun x => x = O ∨ x = S ∨ x = b))) 16 [(0, true), (1, true), (2, true), (3, true), (4, true), (5, true), (6, true), (7, true), (8, true), (9, true), (10, true), (11, true), (14, true), (12, false), (13, false), (15, true), (16, false)] (by kernel_rfl) (by kernel_rfl) RS.refl RS.trans (fun _ _ d _ _ h => by cases d <;> exact h) ?_
                    refine wpSch_q ?_ rfl rfl (fun w' hR => ?_) ?_
                    rotate_left
                    · (go_simp; first | rfl | rw [if_neg (by simp; omega)] | rw [if_neg (by omega)])
                    (try simp only [Act.put, List.setIfInBounds_toArray, List.set_cons_zero, List.set_cons_succ])
                    refine wpSch_q ?_ rfl rfl (fun w' hR => ?_) ?_
                    rotate_left
                    · (go_simp; first | rfl | rw [if_neg (by simp; omega)] | rw [if_neg (by omega)])
                    (try simp only [Act.put, List.setIfInBounds_toArray, List.set_cons_zero, List.set_cons_succ])
                    refine wpSch_q ?_ rfl rfl (fun w' hR => ?_) ?_
                    rotate_left
                    · (go_simp; first | rfl | rw [if_neg (by simp; omega)] | rw [if_neg (by omega)])
                    (try simp only [Act.put, List.setIfInBounds_toArray, List.set_cons_zero, List.set_cons_succ])
                    refine wpSch_q ?_ rfl rfl (fun w' hR => ?_) ?_
                    rotate_left
                    · (go_simp; first | rfl | rw [if_neg (by simp; omega)] | rw [if_neg (by omega)])
                    (try simp only [Act.put, List.setIfInBounds_toArray, List.set_cons_zero, List.set_cons_succ])
                    refine wpSch_q ?_ rfl rfl (fun w' hR => ?_) ?_
                    rotate_left
                    · (obtain ⟨hRs, hRc⟩ := hR; (try have hRd := fun o => hRc _ o rfl (by first | (simp; done) | (simp; omega) | omega)); (try have hRe := fun o => hRc _ o (Or.inl rfl) (by first | (simp; done) | (simp; omega) | omega)); (try have hRf := fun o => hRc _ o (Or.inr rfl) (by first | (simp; done) | (simp; omega) | omega)); (try have hRg := fun o => hRc _ o (Or.inr (Or.inl rfl)) (by first | (simp; done) | (simp; omega) | omega)); (try have hRh := fun o => hRc _ o (Or.inr (Or.inr rfl)) (by first | (simp; done) | (simp; omega) | omega)); go_simp; first | rfl | rw [if_neg (by simp; omega)] | rw [if_neg (by omega)])
                    (try simp only [Act.put, List.setIfInBounds_toArray, List.set_cons_zero, List.set_cons_succ])
                    refine wpSch_q ?_ rfl rfl (fun w' hR => ?_) ?_
                    rotate_left
                    · (go_simp; first | rfl | rw [if_neg (by simp; omega)] | rw [if_neg (by omega)])
                    (try simp only [Act.put, List.setIfInBounds_toArray, List.set_cons_zero, List.set_cons_succ])
                    refine wpSch_q ?_ rfl rfl (fun w' hR => ?_) ?_
                    rotate_left
                    · (go_simp; first | rfl | rw [if_neg (by simp; omega)] | rw [if_neg (by omega)])
                    (try simp only [Act.put, List.setIfInBounds_toArray, List.set_cons_zero, List.set_cons_succ])
                    refine wpSch_q ?_ rfl rfl (fun w' hR => ?_) ?_
                    rotate_left
                    · (go_simp; first | rfl | rw [if_neg (by simp; omega)] | rw [if_neg (by omega)])
                    (try simp only [Act.put, List.setIfInBounds_toArray, List.set_cons_zero, List.set_cons_succ])
                    refine wpSch_q ?_ rfl rfl (fun w' hR => ?_) ?_
                    rotate_left
                    · (obtain ⟨hRs, hRc⟩ := hR; (try have hRd := fun o => hRc _ o rfl (by first | (simp; done) | (simp; omega) | omega)); (try have hRe := fun o => hRc _ o (Or.inl rfl) (by first | (simp; done) | (simp; omega) | omega)); (try have hRf := fun o => hRc _ o (Or.inr rfl) (by first | (simp; done) | (simp; omega) | omega)); (try have hRg := fun o => hRc _ o (Or.inr (Or.inl rfl)) (by first | (simp; done) | (simp; omega) | omega)); (try have hRh := fun o => hRc _ o (Or.inr (Or.inr rfl)) (by first | (simp; done) | (simp; omega) | omega)); go_simp; first | rfl | rw [if_neg (by simp; omega)] | rw [if_neg (by omega)])
                    (try simp only [Act.put, List.setIfInBounds_toArray, List.set_cons_zero, List.set_cons_succ])
                    refine wpSch_q ?_ rfl rfl (fun w' hR => ?_) ?_
                    rotate_left
                    · (go_simp; first | rfl | rw [if_neg (by simp; omega)] | rw [if_neg (by omega)])
                    (try simp only [Act.put, List.setIfInBounds_toArray, List.set_cons_zero, List.set_cons_succ])
                    refine wpSch_q ?_ rfl rfl (fun w' hR => ?_) ?_
                    rotate_left
                    · (go_simp; first | rfl | rw [if_neg (by simp; omega)] | rw [if_neg (by omega)])
                    (try simp only [Act.put, List.setIfInBounds_toArray, List.set_cons_zero, List.set_cons_succ])
                    refine wpSch_q ?_ rfl rfl (fun w' hR => ?_) ?_
                    rotate_left
                    · (obtain ⟨hRs, hRc⟩ := hR; (try have hRd := fun o => hRc _ o rfl (by first | (simp; done) | (simp; omega) | omega)); (try have hRe := fun o => hRc _ o (Or.inl rfl) (by first | (simp; done) | (simp; omega) | omega)); (try have hRf := fun o => hRc _ o (Or.inr rfl) (by first | (simp; done) | (simp; omega) | omega)); (try have hRg := fun o => hRc _ o (Or.inr (Or.inl rfl)) (by first | (simp; done) | (simp; omega) | omega)); (try have hRh := fun o => hRc _ o (Or.inr (Or.inr rfl)) (by first | (simp; done) | (simp; omega) | omega)); go_simp; first | rfl | rw [if_neg (by simp; omega)] | rw [if_neg (by omega)])
                    (try simp only [Act.put, List.setIfInBounds_toArray, List.set_cons_zero, List.set_cons_succ])
                    refine wpSch_q ?_ rfl rfl (fun w' hR => ?_) ?_
                    rotate_left
                    · (go_simp; first | rfl | rw [if_neg (by simp; omega)] | rw [if_neg (by omega)])
                    (try simp only [Act.put, List.setIfInBounds_toArray, List.set_cons_zero, List.set_cons_succ])
                    refine wpSch_e rfl rfl (fun K hK => ?_)
                    go_simp
                    refine hK _ _ (fun _ => RS.alloc _) ?_
                    clear hK K
                    (try simp only [Act.put, List.setIfInBounds_toArray, List.set_cons_zero, List.set_cons_succ])
                    refine wpSch_e rfl rfl (fun K hK => ?_)
                    (refine wp_push_at Tryd.tablesOf _ _ rfl t rfl ((ownd.row k hlt).fr hTF (fun _ _ _ => trivial)) rfl (by first | rfl | (simp; done) | (simp; rfl)) rfl (Table.cells_len _) (Table.one _) (by omega) (by omega) (by show O + 1 ≤ wr.heap.size; omega) ?_; rintro A2 c2' w10 hown' hg hat)
                    refine hK _ _ (fun _ => RS.fr (S' := (fun x => x = O ∨ x = S ∨ x = b)) (Fr.of_grown hg (fun g e _ h => by have := hblk g e; omega)) (fun _ _ h => h)) ?_
                    clear hK K
                    (try simp only [Act.put, List.setIfInBounds_toArray, List.set_cons_zero, List.set_cons_succ])
                    (have hF : Fr (fun b => b < O + 1) wr.drew w10 := (((Fr.refl wr.drew).drew).alloc _).grown_step hg (fun g e _ h => by have := hblk g e; omega); have bO2 := bOd.fr hF (by omega); have own3 := (ownd.fr hTF (fun _ _ _ => trivial)).put hlt ((World.grownBy_alloc _ _ _).trans hg) hown' hat; have hC3 := hCd.step hF (fun _ _ h => Nat.lt_succ_of_lt h); clear o1 of s1 s2 c0 c1 c2 c3 c4 c5 hF hg hat hown'; have o1 := bO2.cell (3 + k); rw [Live.cell _ _ hlt] at o1; have of := bO2.frozen)
                    refine wpSch_q ?_ rfl rfl (fun w' hR => ?_) ?_
                    rotate_left
                    · (go_simp; first | rfl | rw [if_neg (by simp; omega)] | rw [if_neg (by omega)])
                    (try simp only [Act.put, List.setIfInBounds_toArray, List.set_cons_zero, List.set_cons_succ])
                    refine wpSch_e rfl rfl (fun K hK => ?_)
                    go_simp
                    refine hK _ _ (fun h => absurd rfl h) ?_
                    clear hK K
                    (try simp only [Act.put, List.setIfInBounds_toArray, List.set_cons_zero, List.set_cons_succ])
                    refine wpSch_nil ?_
                    have bO3 : Box (w10.setCell ⟨O, 3 + k, none⟩ (.slice A2 (((partOf v e k j).tab k).length + 1) c2')) O 28 ((partOf v e k (j + 1)).cells (q.set k A2 c2')) := by
                      have h := bO2.put (3 + k) (.slice A2 (((partOf v e k j).tab k).length + 1) c2')
                      rw [HP.out, Live.cells_set _ _ hlt, List.length_append]
                      exact h
                    rw [← HP.out] at own3
                    have own4 := own3.setCell (p := ⟨O, 3 + k, none⟩) (Nat.lt_succ_self O) (.slice A2 (((partOf v e k j).tab k).length + 1) c2')
                    have hC4 := hC3.set (p := ⟨O, 3 + k, none⟩) (.slice A2 (((partOf v e k j).tab k).length + 1) c2') (fun _ h => Nat.lt_irrefl O h)
                    clear own3 hC3 bO2 ownd hCd bOd o1 of k0 k4 hpl hblk hTF hz9 j0 j1 bS
                    go_wp2
                    exact ⟨⟨j + 1, q.set k A2 c2', by omega, by simp, bO3, own4, hC4⟩, by simp [intOf]; omega⟩
                · obtain rfl : j = (v.tab k).length := by omega
                  have HP := Lib.hid (partOf_all (v := v) (e := e) (k := k) (Nat.le_refl (v.tab k).length))
                  go_wp2
                  exact ⟨⟨k + 1, q, by omega, by simp, by rw [← HP.out]; exact bO, by rw [← HP.out]; exact hown, hC⟩, by simp [intOf]; omega⟩
            · obtain rfl : k = 4 := by omega
              rw [Live.cells_congr (o := partOf v e 4 0) (o' := keptOf v e) q rfl rfl rfl (partOf_kept v e)] at bO
              have hown := hown.congr (o' := keptOf v e) (fun k hk => (partOf_kept v e k hk).symm)
              have hkl : ∀ i, i < 4 → ((keptOf v e).tab i).length ≤ 137438953472 + 0 := fun i hi => Nat.le_trans (List.length_filter_le _ _) (HLEN.out i hi)
              clear bO6 hk hlt
              go_wp2_with fail
              rw [show ((4 : Nat) : Int) = (4 : Int) from rfl]
              go_loopw [15] (fun i wr => ∃ (k : Nat) (o : Live) (q : Place), k ≤ e.add.length ∧ i = .int .i64 k ∧ Box wr O 28 (o.cells q) ∧ LOwn wr (O + 1) o q ∧ (∀ i, i < 4 → (o.tab i).length ≤ 137438953472 + k) ∧ Fr (fun b => b < O) w6 wr ∧
                Hid (addAll putRef e.next e.add (keptOf v e) = addAll putRef e.next (e.add.drop k) o)) (fun i _ => e.add.length - (intOf i).toNat)
              · exact ⟨0, keptOf v e, q, by omega, rfl, bO, hown, hkl, hC, rfl⟩
              · clear bO hown hkl hC
                obtain ⟨k, o, q, hk, rfl, bO, hown, hkl, hC, hadd⟩ := hrel
                have bE := bE6.fr hC (by omega)
                have y3 := bE.cell 3
                simp only [List.getElem?_toArray, List.getElem?_cons_zero, List.getElem?_cons_succ] at y3
                by_cases hlk : k < e.add.length
                · obtain ⟨t, ht⟩ : ∃ t, e.add[k]? = some t := ⟨_, List.getElem?_eq_getElem hlk⟩
                  have htl := may_levels HM.out t (List.mem_of_getElem? ht)
                  obtain ⟨L, hL⟩ : ∃ L : Nat, t.level = (L : Int) := ⟨t.level.toNat, by omega⟩
                  have hL4 : L < 4 := by omega
                  have HLV : Hid (lvl t = L) := by unfold Hid lvl; omega
                  have HDD : Hid (e.add.drop k = t :: e.add.drop (k + 1)) := by
                    unfold Hid
                    rw [List.drop_eq_getElem_cons hlk]
                    rw [List.getElem?_eq_getElem hlk] at ht
                    cases ht
                    rfl
                  obtain ⟨b, off, hA, -, hbw, hc⟩ := (HE.out _ (hOX _ hC)).add.elem Table.cells_len rfl ht
                  have c0 := hc 0 _ rfl
                  have c1 := hc 1 _ rfl
                  have c2 := hc 2 _ rfl
                  have c3 := hc 3 _ rfl
                  have c4 := hc 4 _ rfl
                  have c5 := hc 5 _ rfl
                  rw [Nat.add_zero] at c0
                  rw [hL] at c1
                  rw [hA] at y3 ⊢
                  clear hc ht hbw htl bE
                  obtain ⟨T, hT⟩ : ∃ T, wr.heap.size = T := ⟨_, rfl⟩
                  have hOT : O < T := by have := bO.lt; omega
                  obtain ⟨wt, hwt⟩ : ∃ wt, wr.alloc (.cells #[.int .u64 t.num, .int .i64 L, .int .i64 t.size, .int .i64 t.count, str t.least, str t.great] 42) = wt := ⟨_, rfl⟩
                  have hwt' : wr.alloc (.cells t.cells.toArray 42) = wt := by rw [← hwt, ← hL]; rfl
                  have hEt : Ext wr wt := by rw [← hwt]; exact Ext.al _ _
                  have bOt := bO.ext hEt
                  have ownt := hown.ext hEt
                  have hCt : Fr (fun b => b < O) w6 wt := hC.ext_step hEt
                  have bTt : Box wt T 42 t.cells.toArray := by rw [← hwt']; exact Box.new_at _ _ _ _ hT.symm
                  have hzt : wt.heap.size = T + 1 := by rw [← hwt, ← hT]; simp
                  have HWT := Lib.hid hwt
                  clear hwt' hEt bO hown hC hwt
                  have o0 := bOt.cell 0
                  have o1 := bOt.cell 1
                  have o2 := bOt.cell 2
                  have o3 := bOt.cell 3
                  have o4 := bOt.cell 4
                  have o5 := bOt.cell 5
                  have o6 := bOt.cell 6
                  have t0 := bTt.cell 0
                  simp only [Live.cells, Table.cells, List.getElem?_toArray, List.getElem?_cons_zero, List.getElem?_cons_succ] at o0 o1 o2 o3 o4 o5 o6 t0
                  have hTw : T < wt.heap.size := by omega
                  have hOw : O < wt.heap.size := by omega
                  obtain ⟨b1, hb1⟩ : ∃ b1, decide (t.num ∈ numsOf o) = b1 := ⟨_, rfl⟩
                  have hnl2 : (numsOf o).length ≤ 1099511627776 := by
                    have := numsTo_few o (B := 137438953472 + 1048576) (fun i hi => Nat.le_trans (hkl i hi) (by omega))
                    omega
                  have HAM := Lib.hid (fun (w' : World) A2 c2 (hr : Row w' 0 w'.heap.size 1 A2 (numsOf o).length ((numsOf o).flatMap u64C)) => among_any (numsOf o) hnl2 t.num A2 c2 w' hr)
                  rw [hb1] at HAM
                  have hTF : Fr (fun _ => True) wt wt.drew := (Fr.refl wt).drew
                  go_wp2_with fail
                  rw [HWT.out]
                  refine wp_region_sch (RS ((fun x => x = O ∨ x = T))) 6 [(0, true), (2, true), (3, true), (1, false), (4, false), (5, true)] (by kernel_rfl) (by kernel_rfl) RS.refl RS.trans (fun _ _ d _ _ h => by cases d <;> exact h) ?_
                  refine wpSch_q ?_ rfl rfl (fun w' hR => ?_) ?_
                  rotate_left
                  · (obtain ⟨hRs, hRc⟩ := hR; (try have hRd := fun o => hRc _ o rfl (by first | (simp; done) | (simp; omega) | omega)); (try have hRe := fun o => hRc _ o (Or.inl rfl) (by first | (simp; done) | (simp; omega) | omega)); (try have hRf := fun o => hRc _ o (Or.inr rfl) (by first | (simp; done) | (simp; omega) | omega)); (try have hRg := fun o => hRc _ o (Or.inr (Or.inl rfl)) (by first | (simp; done) | (simp; omega) | omega)); (try have hRh := fun o => hRc _ o (Or.inr (Or.inr rfl)) (by first | (simp; done) | (simp; omega) | omega)); go_simp; first | rfl | rw [if_neg (by simp; omega)] | rw [if_neg (by omega)])
                  (try simp only [Act.put, List.setIfInBounds_toArray, List.set_cons_zero, List.set_cons_succ])
                  refine wpSch_q ?_ rfl rfl (fun w' hR => ?_) ?_
                  rotate_left
                  · (go_simp; first | rfl | rw [if_neg (by simp; omega)] | rw [if_neg (by omega)])
                  (try simp only [Act.put, List.setIfInBounds_toArray, List.set_cons_zero, List.set_cons_succ])
                  refine wpSch_q ?_ rfl rfl (fun w' hR => ?_) ?_
                  rotate_left
                  · (obtain ⟨hRs, hRc⟩ := hR; (try have hRd := fun o => hRc _ o rfl (by first | (simp; done) | (simp; omega) | omega)); (try have hRe := fun o => hRc _ o (Or.inl rfl) (by first | (simp; done) | (simp; omega) | omega)); (try have hRf := fun o => hRc _ o (Or.inr rfl) (by first | (simp; done) | (simp; omega) | omega)); (try have hRg := fun o => hRc _ o (Or.inr (Or.inl rfl)) (by first | (simp; done) | (simp; omega) | omega)); (try have hRh := fun o => hRc _ o (Or.inr (Or.inr rfl)) (by first | (simp; done) | (simp; omega) | omega)); go_simp; first | rfl | rw [if_neg (by simp; omega)] | rw [if_neg (by omega)])
                  (try simp only [Act.put, List.setIfInBounds_toArray, List.set_cons_zero, List.set_cons_succ])
                  refine wpSch_e rfl rfl (fun K hK => ?_)
                  go_simp
                  refine (numbers_ref o q (fun i hi => Nat.le_trans (hkl i hi) (by omega)) wt.drew ((ownt.fr hTF (fun _ _ _ => trivial)).at_ (Nat.zero_le _))).mono ?_
                  rintro e w5 ⟨AN2, cN2, rfl, hrN, hb5⟩
                  refine hK _ _ (fun _ => RS.fr (S' := fun _ => True) (Fr.of_ext hb5) (fun _ _ _ => trivial)) ?_
                  clear hK K
                  (try simp only [Act.put, List.setIfInBounds_toArray, List.set_cons_zero, List.set_cons_succ])
                  skip
                  refine wpSch_e rfl rfl (fun K hK => ?_)
                  go_simp
                  refine (HAM.out w5 AN2 cN2 hrN).mono ?_
                  rintro e w6' ⟨rfl, rfl⟩
                  refine hK _ _ (fun _ => RS.refl _) ?_
                  clear hK K
                  (try simp only [Act.put, List.setIfInBounds_toArray, List.set_cons_zero, List.set_cons_succ])
                  skip
                  refine wpSch_q ?_ rfl rfl (fun w' hR => ?_) ?_
                  rotate_left
                  · (go_simp; first | rfl | rw [if_neg (by simp; omega)] | rw [if_neg (by omega)])
                  (try simp only [Act.put, List.setIfInBounds_toArray, List.set_cons_zero, List.set_cons_succ])
                  refine wpSch_nil ?_
                  have hE5 : Ext wt w5 := (Ext.dr wt).trans' hb5
                  have bO5 := bOt.ext hE5
                  have own5 := ownt.ext hE5
                  have hC5 : Fr (fun b => b < O) w6 w5 := hCt.ext_step hE5
                  have bT5 := bTt.ext hE5
                  have bE := bE6.fr hC5 (by omega)
                  have bR := bR6.fr hC5 (by omega)
                  have hX5 := hOX _ hC5
                  clear o0 o1 o2 o3 o4 o5 o6 t0 hTw hOw hb5 hrN hTF bOt ownt hCt bTt HAM hnl2 c0 c1 c2 c3 c4 c5 y3 hE5
                  have y0 := bE.cell 0
                  have t0 := bT5.cell 0
                  have t1 := bT5.cell 1
                  have r0 := bR.cell 0
                  have r1 := bR.cell 1
                  have r2 := bR.cell 2
                  have r3 := bR.cell 3
                  have r4 := bR.cell 4
                  have r5 := bR.cell 5
                  have r6 := bR.cell 6
                  have rf := bR.frozen
                  simp only [Table.cells, hL, List.getElem?_toArray, List.getElem?_cons_zero, List.getElem?_cons_succ] at y0 t0 t1 r0 r1 r2 r3 r4 r5 r6
                  cases b1 with
                  | true =>
                    have hin := of_decide_eq_true hb1
                    have HZ : Hid (LivePost (applyWith putRef v e) = LivePost (noLive, 3)) := HAP.out (noLive, 3) (by
                      have h1 : addAll putRef e.next e.add (keptOf v e) = none := by rw [hadd.out, HDD.out]; simp [addAll, hin]
                      simp [applyWith, HM.out, hlow, HDR.out, h1])
                    clear hin hadd HAP hb1
                    (try simp only [Exit.then]); (try go_at_K); (try dsimp only); (repeat (first | go_values | go_skip | go_guarded | go_step | go_upon)); (try simp only [Exit.inBlock, Exit.then])
                    refine live_ret (v := noLive) (p := noPlace) rfl rfl rfl rfl (bR.put7 _ _ _ _ _ _ _) ?_
                    rw [HZ.out]
                    exact LivePost.mk (LiveAt.none_ _) (Below.put7 hX5 (by omega) _ _ _ _ _ _ _)
                  | false =>
                    have hin := of_decide_eq_false hb1
                    by_cases hnx : e.next ≤ t.num
                    · have HZ : Hid (LivePost (applyWith putRef v e) = LivePost (noLive, 3)) := HAP.out (noLive, 3) (by
                        have h1 : addAll putRef e.next e.add (keptOf v e) = none := by rw [hadd.out, HDD.out]; simp [addAll, hnx]
                        simp [applyWith, HM.out, hlow, HDR.out, h1])
                      clear hin hadd HAP hb1
                      (try simp only [Exit.then]); (try go_at_K); (try dsimp only); (repeat (first | go_values | go_skip | go_guarded | go_step | go_upon)); (try simp only [Exit.inBlock, Exit.then])
                      refine live_ret (v := noLive) (p := noPlace) rfl rfl rfl rfl (bR.put7 _ _ _ _ _ _ _) ?_
                      rw [HZ.out]
                      exact LivePost.mk (LiveAt.none_ _) (Below.put7 hX5 (by omega) _ _ _ _ _ _ _)
                    · have HADD : Hid (addAll putRef e.next e.add (keptOf v e) = if clash t (o.tab L) = true then none else addAll putRef e.next (e.add.drop (k + 1)) (o.set L (putRef (o.tab L) t))) := by
                        unfold Hid
                        rw [hadd.out, HDD.out]
                        have hnn : ¬ (t.num ∈ numsOf o ∨ e.next ≤ t.num) := fun h => h.elim hin hnx
                        rw [addAll, if_neg hnn, HLV.out]
                      clear hin hadd hb1 r0 r1 r2 r3 r4 r5 r6 rf bR
                      go_wp2_with fail
                      have HR5 := Lib.hid (own5.row L hL4).row
                      have HO5 := Lib.hid own5
                      have HC5 := Lib.hid hC5
                      have hT5 : T < w5.heap.size := bT5.lt
                      have hO5 : O < w5.heap.size := bO5.lt
                      clear y0 t0 t1 own5 hC5 bE
                      have k0 : (0 : Int) ≤ (L : Int) := by omega
                      have k4 : (L : Int) < 4 := by omega
                      have hTC : t.cells.toArray = #[.int .u64 t.num, .int .i64 L, .int .i64 t.size, .int .i64 t.count, str t.least, str t.great] := by simp [Table.cells, hL]
                      go_loopw [18] (fun i wr => ∃ j : Nat, j ≤ (o.tab L).length ∧ i = .int .i64 j ∧ Hid (clash t ((o.tab L).take j) = false) ∧ Ext w5 wr) (fun i _ => (o.tab L).length - (intOf i).toNat)
                      · exact ⟨0, by omega, rfl, by simp [Hid, clash], Below.refl _ _⟩
                      · obtain ⟨j, hj, rfl, hcl, hX⟩ := hrel
                        have hlen := hkl L hL4
                        have bT := bT5.ext hX
                        have bO := bO5.ext hX
                        have t0 := bT.cell 0
                        have t1 := bT.cell 1
                        have t2 := bT.cell 2
                        have t3 := bT.cell 3
                        have t4 := bT.cell 4
                        have t5 := bT.cell 5
                        simp only [Table.cells, hL, List.getElem?_toArray, List.getElem?_cons_zero, List.getElem?_cons_succ] at t0 t1 t2 t3 t4 t5
                        have o1 := bO.cell (3 + L)
                        rw [Live.cell _ _ hL4] at o1
                        have hTw : T < wr.heap.size := bT.lt
                        have hOw : O < wr.heap.size := bO.lt
                        by_cases hgo : j < (o.tab L).length ∧ 0 < L
                        · obtain ⟨hlj, hLp⟩ := hgo
                          obtain ⟨u, hu⟩ : ∃ u, (o.tab L)[j]? = some u := ⟨_, List.getElem?_eq_getElem hlj⟩
                          obtain ⟨b2, off2, hA2, -, hbw2, hc2⟩ := (HR5.out.below hX (Nat.le_refl _)).elem Table.cells_len rfl hu
                          have hbw3 : b2 < wr.heap.size := by have := hX.size; omega
                          have c0 := hc2 0 _ rfl
                          have c1 := hc2 1 _ rfl
                          have c2 := hc2 2 _ rfl
                          have c3 := hc2 3 _ rfl
                          have c4 := hc2 4 _ rfl
                          have c5 := hc2 5 _ rfl
                          rw [Nat.add_zero] at c0
                          rw [hA2] at o1
                          have HU := Lib.hid hu
                          have hgt : decide ((0 : Int) < (L : Int)) = true := by simp; omega
                          have hgt2 : decide (0 < L) = true := by simp; omega
                          have hl0 : 0 < t.level := by rw [hL]; omega
                          have HOV := Lib.hid (fun w' => overlap_ref u t.least t.great w')
                          obtain ⟨b1, hb1⟩ : ∃ b1, overB t u = b1 := ⟨_, rfl⟩
                          rw [over_comm t u, hb1] at HOV
                          have j0 : (0 : Int) ≤ (j : Int) := by omega
                          have j1 : (j : Int) < ((o.tab L).length : Int) := by omega
                          clear hc2 hu hbw2
                          go_wp2_with fail
                          refine wp_region_sch (RS ((fun x => x = O ∨ x = T ∨ x = b2))) 14 [(0, true), (1, true), (2, true), (3, true), (4, true), (5, true), (6, true), (7, true), (8, true), (9, true), (10, true), (11, true), (12, false), (13, true)] (by kernel_rfl) (by kernel_rfl) RS.refl RS.trans (fun _ _ d _ _ h => by cases d <;> exact h) ?_
                          refine wpSch_q ?_ rfl rfl (fun w' hR => ?_) ?_
                          rotate_left
                          · (go_simp; first | rfl | rw [if_neg (by simp; omega)] | rw [if_neg (by omega)])
                          (try simp only [Act.put, List.setIfInBounds_toArray, List.set_cons_zero, List.set_cons_succ])
                          refine wpSch_q ?_ rfl rfl (fun w' hR => ?_) ?_
                          rotate_left
                          · (obtain ⟨hRs, hRc⟩ := hR; (try have hRd := fun o => hRc _ o rfl (by first | (simp; done) | (simp; omega) | omega)); (try have hRe := fun o => hRc _ o (Or.inl rfl) (by first | (simp; done) | (simp; omega) | omega)); (try have hRf := fun o => hRc _ o (Or.inr rfl) (by first | (simp; done) | (simp; omega) | omega)); (try have hRg := fun o => hRc _ o (Or.inr (Or.inl rfl)) (by first | (simp; done) | (simp; omega) | omega)); (try have hRh := fun o => hRc _ o (Or.inr (Or.inr rfl)) (by first | (simp; done) | (simp; omega) | omega)); go_simp; first | rfl | rw [if_neg (by simp; omega)] | rw [if_neg (by omega)])
                          (try simp only [Act.put, List.setIfInBounds_toArray, List.set_cons_zero, List.set_cons_succ])
                          refine wpSch_q ?_ rfl rfl (fun w' hR => ?_) ?_
                          rotate_left
                          · (go_simp; first | rfl | rw [if_neg (by simp; omega)] | rw [if_neg (by omega)])
                          (try simp only [Act.put, List.setIfInBounds_toArray, List.set_cons_zero, List.set_cons_succ])
                          refine wpSch_q ?_ rfl rfl (fun w' hR => ?_) ?_
                          rotate_left
                          · (go_simp; first | rfl | rw [if_neg (by simp; omega)] | rw [if_neg (by omega)])
                          (try simp only [Act.put, List.setIfInBounds_toArray, List.set_cons_zero, List.set_cons_succ])
                          refine wpSch_q ?_ rfl rfl (fun w' hR => ?_) ?_
                          rotate_left
                          · (obtain ⟨hRs, hRc⟩ := hR; (try have hRd := fun o => hRc _ o rfl (by first | (simp; done) | (simp; omega) | omega)); (try have hRe := fun o => hRc _ o (Or.inl rfl) (by first | (simp; done) | (simp; omega) | omega)); (try have hRf := fun o => hRc _ o (Or.inr rfl) (by first | (simp; done) | (simp; omega) | omega)); (try have hRg := fun o => hRc _ o (Or.inr (Or.inl rfl)) (by first | (simp; done) | (simp; omega) | omega)); (try have hRh := fun o => hRc _ o (Or.inr (Or.inr rfl)) (by first | (simp; done) | (simp; omega) | omega)); go_simp; first | rfl | rw [if_neg (by simp; omega)] | rw [if_neg (by omega)])
                          (try simp only [Act.put, List.setIfInBounds_toArray, List.set_cons_zero, List.set_cons_succ])
                          refine wpSch_q ?_ rfl rfl (fun w' hR => ?_) ?_
                          rotate_left
                          · (go_simp; first | rfl | rw [if_neg (by simp; omega)] | rw [if_neg (by omega)])
                          (try simp only [Act.put, List.setIfInBounds_toArray, List.set_cons_zero, List.set_cons_succ])
                          refine wpSch_q ?_ rfl rfl (fun w' hR => ?_) ?_
                          rotate_left
                          · (go_simp; first | rfl | rw [if_neg (by simp; omega)] | rw [if_neg (by omega)])
                          (try simp only [Act.put, List.setIfInBounds_toArray, List.set_cons_zero, List.set_cons_succ])
                          refine wpSch_q ?_ rfl rfl (fun w' hR => ?_) ?_
                          rotate_left
                          · (obtain ⟨hRs, hRc⟩ := hR; (try have hRd := fun o => hRc _ o rfl (by first | (simp; done) | (simp; omega) | omega)); (try have hRe := fun o => hRc _ o (Or.inl rfl) (by first | (simp; done) | (simp; omega) | omega)); (try have hRf := fun o => hRc _ o (Or.inr rfl) (by first | (simp; done) | (simp; omega) | omega)); (try have hRg := fun o => hRc _ o (Or.inr (Or.inl rfl)) (by first | (simp; done) | (simp; omega) | omega)); (try have hRh := fun o => hRc _ o (Or.inr (Or.inr rfl)) (by first | (simp; done) | (simp; omega) | omega)); go_simp; first | rfl | rw [if_neg (by simp; omega)] | rw [if_neg (by omega)])
                          (try simp only [Act.put, List.setIfInBounds_toArray, List.set_cons_zero, List.set_cons_succ])
                          refine wpSch_q ?_ rfl rfl (fun w' hR => ?_) ?_
                          rotate_left
                          · (go_simp; first | rfl | rw [if_neg (by simp; omega)] | rw [if_neg (by omega)])
                          (try simp only [Act.put, List.setIfInBounds_toArray, List.set_cons_zero, List.set_cons_succ])
                          refine wpSch_q ?_ rfl rfl (fun w' hR => ?_) ?_
                          rotate_left
                          · (obtain ⟨hRs, hRc⟩ := hR; (try have hRd := fun o => hRc _ o rfl (by first | (simp; done) | (simp; omega) | omega)); (try have hRe := fun o => hRc _ o (Or.inl rfl) (by first | (simp; done) | (simp; omega) | omega)); (try have hRf := fun o => hRc _ o (Or.inr rfl) (by first | (simp; done) | (simp; omega) | omega)); (try have hRg := fun o => hRc _ o (Or.inr (Or.inl rfl)) (by first | (simp; done) | (simp; omega) | omega)); (try have hRh := fun o => hRc _ o (Or.inr (Or.inr rfl)) (by first | (simp; done) | (simp; omega) | omega)); go_simp; first | rfl | rw [if_neg (by simp; omega)] | rw [if_neg (by omega)])
                          (try simp only [Act.put, List.setIfInBounds_toArray, List.set_cons_zero, List.set_cons_succ])
                          refine wpSch_q ?_ rfl rfl (fun w' hR => ?_) ?_
                          rotate_left
                          · (go_simp; first | rfl | rw [if_neg (by simp; omega)] | rw [if_neg (by omega)])
                          (try simp only [Act.put, List.setIfInBounds_toArray, List.set_cons_zero, List.set_cons_succ])
                          refine wpSch_q ?_ rfl rfl (fun w' hR => ?_) ?_
                          rotate_left
                          · (obtain ⟨hRs, hRc⟩ := hR; (try have hRd := fun o => hRc _ o rfl (by first | (simp; done) | (simp; omega) | omega)); (try have hRe := fun o => hRc _ o (Or.inl rfl) (by first | (simp; done) | (simp; omega) | omega)); (try have hRf := fun o => hRc _ o (Or.inr rfl) (by first | (simp; done) | (simp; omega) | omega)); (try have hRg := fun o => hRc _ o (Or.inr (Or.inl rfl)) (by first | (simp; done) | (simp; omega) | omega)); (try have hRh := fun o => hRc _ o (Or.inr (Or.inr rfl)) (by first | (simp; done) | (simp; omega) | omega)); go_simp; first | rfl | rw [if_neg (by simp; omega)] | rw [if_neg (by omega)])
                          (try simp only [Act.put, List.setIfInBounds_toArray, List.set_cons_zero, List.set_cons_succ])
                          refine wpSch_e rfl rfl (fun K hK => ?_)
                          go_simp
                          refine (HOV.out wr.drew).mono ?_
                          rintro e w9 ⟨rfl, hb9⟩
                          refine hK _ _ (fun _ => RS.fr (S' := fun _ => True) (Fr.of_ext hb9) (fun _ _ _ => trivial)) ?_
                          clear hK K
                          (try simp only [Act.put, List.setIfInBounds_toArray, List.set_cons_zero, List.set_cons_succ])
                          skip
                          refine wpSch_q ?_ rfl rfl (fun w' hR => ?_) ?_
                          rotate_left
                          · (go_simp; first | rfl | rw [if_neg (by simp; omega)] | rw [if_neg (by omega)])
                          (try simp only [Act.put, List.setIfInBounds_toArray, List.set_cons_zero, List.set_cons_succ])
                          refine wpSch_nil ?_
                          have hX9 : Ext w5 w9 := (hX.trans' (Ext.dr wr)).trans' hb9
                          clear t0 t1 t2 t3 t4 t5 o1 c0 c1 c2 c3 c4 c5 hb9 HOV bT bO
                          cases b1 with
                          | true =>
                            have HZ : Hid (LivePost (applyWith putRef v e) = LivePost (noLive, 3)) := HAP.out (noLive, 3) (by
                              have h2 : clash t (o.tab L) = true := clash_of (List.mem_of_getElem? HU.out) hl0 hb1
                              have h1 : addAll putRef e.next e.add (keptOf v e) = none := by rw [HADD.out, if_pos h2]
                              simp [applyWith, HM.out, hlow, HDR.out, h1])
                            have bR := bR6.fr (HC5.out.ext_step hX9) (by omega)
                            have hXf := hX5.trans' hX9
                            have r0 := bR.cell 0
                            have r1 := bR.cell 1
                            have r2 := bR.cell 2
                            have r3 := bR.cell 3
                            have r4 := bR.cell 4
                            have r5 := bR.cell 5
                            have r6 := bR.cell 6
                            have rf := bR.frozen
                            simp only [List.getElem?_toArray, List.getElem?_cons_zero, List.getElem?_cons_succ] at r0 r1 r2 r3 r4 r5 r6
                            clear HAP HADD hcl hb1 hl0
                            (try simp only [Exit.then]); (try go_at_K); (try dsimp only); (repeat (first | go_values | go_skip | go_guarded | go_step | go_upon)); (try simp only [Exit.inBlock, Exit.then])
                            refine live_ret (v := noLive) (p := noPlace) rfl rfl rfl rfl (bR.put7 _ _ _ _ _ _ _) ?_
                            rw [HZ.out]
                            exact LivePost.mk (LiveAt.none_ _) (Below.put7 hXf (by omega) _ _ _ _ _ _ _)
                          | false =>
                            have HCL : Hid (clash t ((o.tab L).take (j + 1)) = false) := clash_step HU.out hcl.out (by rw [hb1, Bool.and_false])
                            clear hcl hb1 hl0
                            go_wp2
                            exact ⟨⟨j + 1, by omega, by simp, HCL, hX9⟩, by simp [intOf]; omega⟩
                        · have hcf : clash t (o.tab L) = false := by
                            by_cases hLp : 0 < L
                            · obtain rfl : j = (o.tab L).length := by omega
                              have h := hcl.out
                              rw [List.take_length] at h
                              exact h
                            · unfold clash
                              rw [hL, decide_eq_false (by omega), Bool.false_and]
                          have HCL : Hid (addAll putRef e.next e.add (keptOf v e) = addAll putRef e.next (e.add.drop (k + 1)) (o.set L (putRef (o.tab L) t))) := by
                            unfold Hid
                            rw [HADD.out, if_neg (by rw [hcf]; exact Bool.noConfusion)]
                          have hor : (decide ((j : Int) < ((o.tab L).length : Int)) = false ∧ decide (j < (o.tab L).length) = false) ∨ (decide ((j : Int) < ((o.tab L).length : Int)) = true ∧ decide (j < (o.tab L).length) = true ∧ decide ((0 : Int) < (L : Int)) = false ∧ decide (0 < L) = false) := by
                            by_cases h1 : j < (o.tab L).length
                            · exact .inr ⟨by simp [h1], by simp [h1], by simp; omega, by simp; omega⟩
                            · exact .inl ⟨by simp; omega, by simp; omega⟩
                          have hC := HC5.out.ext_step hX
                          have hown := HO5.out.ext hX
                          have of := bO.frozen
                          have HPUT := Lib.hid (fun (w' : World) (ho : Own w' (O + 1) 42 Table.cells 6 (q.A L) (q.c L) (o.tab L)) => put_any (o.tab L) (by omega) t (by omega) (q.A L) (q.c L) (O + 1) w' ho)
                          rw [hTC] at HPUT
                          clear hcl hcf HADD hgo
                          rcases hor with ⟨hd, hd2⟩ | ⟨hd, hd2, hgt, hgt2⟩
                          ·
                            go_wp2_with fail
                            refine wp_region_sch (RS ((fun x => x = O ∨ x = T))) 11 [(0, true), (1, true), (2, true), (3, true), (4, true), (5, true), (6, true), (7, true), (9, true), (8, false), (10, true), (11, false)] (by kernel_rfl) (by kernel_rfl) RS.refl RS.trans (fun _ _ d _ _ h => by cases d <;> exact h) ?_
                            refine wpSch_q ?_ rfl rfl (fun w' hR => ?_) ?_
                            rotate_left
                            · (go_simp; first | rfl | rw [if_neg (by simp; omega)] | rw [if_neg (by omega)])
                            (try simp only [Act.put, List.setIfInBounds_toArray, List.set_cons_zero, List.set_cons_succ])
                            refine wpSch_q ?_ rfl rfl (fun w' hR => ?_) ?_
                            rotate_left
                            · (obtain ⟨hRs, hRc⟩ := hR; (try have hRd := fun o => hRc _ o rfl (by first | (simp; done) | (simp; omega) | omega)); (try have hRe := fun o => hRc _ o (Or.inl rfl) (by first | (simp; done) | (simp; omega) | omega)); (try have hRf := fun o => hRc _ o (Or.inr rfl) (by first | (simp; done) | (simp; omega) | omega)); (try have hRg := fun o => hRc _ o (Or.inr (Or.inl rfl)) (by first | (simp; done) | (simp; omega) | omega)); (try have hRh := fun o => hRc _ o (Or.inr (Or.inr rfl)) (by first | (simp; done) | (simp; omega) | omega)); go_simp; first | rfl | rw [if_neg (by simp; omega)] | rw [if_neg (by omega)])
                            (try simp only [Act.put, List.setIfInBounds_toArray, List.set_cons_zero, List.set_cons_succ])
                            refine wpSch_q ?_ rfl rfl (fun w' hR => ?_) ?_
                            rotate_left
                            · (go_simp; first | rfl | rw [if_neg (by simp; omega)] | rw [if_neg (by omega)])
                            (try simp only [Act.put, List.setIfInBounds_toArray, List.set_cons_zero, List.set_cons_succ])
                            refine wpSch_q ?_ rfl rfl (fun w' hR => ?_) ?_
                            rotate_left
                            · (obtain ⟨hRs, hRc⟩ := hR; (try have hRd := fun o => hRc _ o rfl (by first | (simp; done) | (simp; omega) | omega)); (try have hRe := fun o => hRc _ o (Or.inl rfl) (by first | (simp; done) | (simp; omega) | omega)); (try have hRf := fun o => hRc _ o (Or.inr rfl) (by first | (simp; done) | (simp; omega) | omega)); (try have hRg := fun o => hRc _ o (Or.inr (Or.inl rfl)) (by first | (simp; done) | (simp; omega) | omega)); (try have hRh := fun o => hRc _ o (Or.inr (Or.inr rfl)) (by first | (simp; done) | (simp; omega) | omega)); go_simp; first | rfl | rw [if_neg (by simp; omega)] | rw [if_neg (by omega)])
                            (try simp only [Act.put, List.setIfInBounds_toArray, List.set_cons_zero, List.set_cons_succ])
                            refine wpSch_q ?_ rfl rfl (fun w' hR => ?_) ?_
                            rotate_left
                            · (go_simp; first | rfl | rw [if_neg (by simp; omega)] | rw [if_neg (by omega)])
                            (try simp only [Act.put, List.setIfInBounds_toArray, List.set_cons_zero, List.set_cons_succ])
                            refine wpSch_q ?_ rfl rfl (fun w' hR => ?_) ?_
                            rotate_left
                            · (go_simp; first | rfl | rw [if_neg (by simp; omega)] | rw [if_neg (by omega)])
                            (try simp only [Act.put, List.setIfInBounds_toArray, List.set_cons_zero, List.set_cons_succ])
                            refine wpSch_q ?_ rfl rfl (fun w' hR => ?_) ?_
                            rotate_left
                            · (obtain ⟨hRs, hRc⟩ := hR; (try have hRd := fun o => hRc _ o rfl (by first | (simp; done) | (simp; omega) | omega)); (try have hRe := fun o => hRc _ o (Or.inl rfl) (by first | (simp; done) | (simp; omega) | omega)); (try have hRf := fun o => hRc _ o (Or.inr rfl) (by first | (simp; done) | (simp; omega) | omega)); (try have hRg := fun o => hRc _ o (Or.inr (Or.inl rfl)) (by first | (simp; done) | (simp; omega) | omega)); (try have hRh := fun o => hRc _ o (Or.inr (Or.inr rfl)) (by first | (simp; done) | (simp; omega) | omega)); go_simp; first | rfl | rw [if_neg (by simp; omega)] | rw [if_neg (by omega)])
                            (try simp only [Act.put, List.setIfInBounds_toArray, List.set_cons_zero, List.set_cons_succ])
                            refine wpSch_q ?_ rfl rfl (fun w' hR => ?_) ?_
                            rotate_left
                            · (obtain ⟨hRs, hRc⟩ := hR; (try have hRd := fun o => hRc _ o rfl (by first | (simp; done) | (simp; omega) | omega)); (try have hRe := fun o => hRc _ o (Or.inl rfl) (by first | (simp; done) | (simp; omega) | omega)); (try have hRf := fun o => hRc _ o (Or.inr rfl) (by first | (simp; done) | (simp; omega) | omega)); (try have hRg := fun o => hRc _ o (Or.inr (Or.inl rfl)) (by first | (simp; done) | (simp; omega) | omega)); (try have hRh := fun o => hRc _ o (Or.inr (Or.inr rfl)) (by first | (simp; done) | (simp; omega) | omega)); go_simp; first | rfl | rw [if_neg (by simp; omega)] | rw [if_neg (by omega)])
                            (try simp only [Act.put, List.setIfInBounds_toArray, List.set_cons_zero, List.set_cons_succ])
                            refine wpSch_q ?_ rfl rfl (fun w' hR => ?_) ?_
                            rotate_left
                            · (go_simp; first | rfl | rw [if_neg (by simp; omega)] | rw [if_neg (by omega)])
                            (try simp only [Act.put, List.setIfInBounds_toArray, List.set_cons_zero, List.set_cons_succ])
                            refine wpSch_e rfl rfl (fun K hK => ?_)
                            go_simp
                            refine (HPUT.out wr.drew ((hown.fr ((Fr.refl (S := fun _ => True) wr).drew) (fun _ _ _ => trivial)).row L hL4)).mono ?_
                            rintro e w9 ⟨A2, c2', rfl, hown', hb9⟩
                            refine hK _ _ (fun _ => RS.fr (S' := fun _ => True) (Fr.of_ext hb9) (fun _ _ _ => trivial)) ?_
                            clear hK K
                            (try simp only [Act.put, List.setIfInBounds_toArray, List.set_cons_zero, List.set_cons_succ])
                            (have hE9 : Ext wr w9 := (Ext.dr wr).trans' hb9; have bO9 := bO.ext hE9; have own9 := hown.put hL4 ⟨hE9.os, hE9.tape, hE9.output, hE9.size, fun k hk _ => hE9.block k hk⟩ (Own.lower (base' := O + 1) hown' (by show O + 1 ≤ wr.heap.size; omega)) (fun g e => .inr (hown'.blk g e).1); have hC9 := hC.ext_step hE9; clear o1 of t0 t1 t2 t3 t4 t5 hown' hE9 hb9; have o1 := bO9.cell (3 + L); rw [Live.cell _ _ hL4] at o1; have of := bO9.frozen)
                            refine wpSch_q ?_ rfl rfl (fun w' hR => ?_) ?_
                            rotate_left
                            · (go_simp; first | rfl | rw [if_neg (by simp; omega)] | rw [if_neg (by omega)])
                            (try simp only [Act.put, List.setIfInBounds_toArray, List.set_cons_zero, List.set_cons_succ])
                            refine wpSch_e rfl rfl (fun K hK => ?_)
                            go_simp
                            refine hK _ _ (fun h => absurd rfl h) ?_
                            clear hK K
                            (try simp only [Act.put, List.setIfInBounds_toArray, List.set_cons_zero, List.set_cons_succ])
                            refine wpSch_nil ?_
                            have bO3 : Box (w9.setCell ⟨O, 3 + L, none⟩ (.slice A2 ((o.tab L).length + 1) c2')) O 28 ((o.set L (putRef (o.tab L) t)).cells (q.set L A2 c2')) := by
                              have h := bO9.put (3 + L) (.slice A2 ((o.tab L).length + 1) c2')
                              rw [Live.cells_set _ _ hL4, putRef_len]
                              exact h
                            have own4 := own9.setCell (p := ⟨O, 3 + L, none⟩) (Nat.lt_succ_self O) (.slice A2 ((o.tab L).length + 1) c2')
                            have hC4 := hC9.set (p := ⟨O, 3 + L, none⟩) (.slice A2 ((o.tab L).length + 1) c2') (fun _ h => Nat.lt_irrefl O h)
                            have hkl2 : ∀ i, i < 4 → ((o.set L (putRef (o.tab L) t)).tab i).length ≤ 137438953472 + (k + 1) := fun i hi => by
                              by_cases h : i = L
                              · subst h
                                rw [Live.set_same, putRef_len]
                                have := hkl i hi
                                omega
                              · rw [Live.set_other _ _ h]
                                have := hkl i hi
                                omega
                            clear own9 hC9 bO9 hC hown bO o1 of k0 k4 hTC hd hd2 bT hTw hOw
                            go_wp2
                            exact ⟨⟨k + 1, o.set L (putRef (o.tab L) t), q.set L A2 c2', by omega, by simp, bO3, own4, hkl2, hC4, HCL⟩, by simp [intOf]; omega⟩
                          ·
                            go_wp2_with fail
                            refine wp_region_sch (RS ((fun x => x = O ∨ x = T))) 11 [(0, true), (1, true), (2, true), (3, true), (4, true), (5, true), (6, true), (7, true), (9, true), (8, false), (10, true), (11, false)] (by kernel_rfl) (by kernel_rfl) RS.refl RS.trans (fun _ _ d _ _ h => by cases d <;> exact h) ?_
                            refine wpSch_q ?_ rfl rfl (fun w' hR => ?_) ?_
                            rotate_left
                            · (go_simp; first | rfl | rw [if_neg (by simp; omega)] | rw [if_neg (by omega)])
                            (try simp only [Act.put, List.setIfInBounds_toArray, List.set_cons_zero, List.set_cons_succ])
                            refine wpSch_q ?_ rfl rfl (fun w' hR => ?_) ?_
                            rotate_left
                            · (obtain ⟨hRs, hRc⟩ := hR; (try have hRd := fun o => hRc _ o rfl (by first | (simp; done) | (simp; omega) | omega)); (try have hRe := fun o => hRc _ o (Or.inl rfl) (by first | (simp; done) | (simp; omega) | omega)); (try have hRf := fun o => hRc _ o (Or.inr rfl) (by first | (simp; done) | (simp; omega) | omega)); (try have hRg := fun o => hRc _ o (Or.inr (Or.inl rfl)) (by first | (simp; done) | (simp; omega) | omega)); (try have hRh := fun o => hRc _ o (Or.inr (Or.inr rfl)) (by first | (simp; done) | (simp; omega) | omega)); go_simp; first | rfl | rw [if_neg (by simp; omega)] | rw [if_neg (by omega)])
                            (try simp only [Act.put, List.setIfInBounds_toArray, List.set_cons_zero, List.set_cons_succ])
                            refine wpSch_q ?_ rfl rfl (fun w' hR => ?_) ?_
                            rotate_left
                            · (go_simp; first | rfl | rw [if_neg (by simp; omega)] | rw [if_neg (by omega)])
                            (try simp only [Act.put, List.setIfInBounds_toArray, List.set_cons_zero, List.set_cons_succ])
                            refine wpSch_q ?_ rfl rfl (fun w' hR => ?_) ?_
                            rotate_left
                            · (obtain ⟨hRs, hRc⟩ := hR; (try have hRd := fun o => hRc _ o rfl (by first | (simp; done) | (simp; omega) | omega)); (try have hRe := fun o => hRc _ o (Or.inl rfl) (by first | (simp; done) | (simp; omega) | omega)); (try have hRf := fun o => hRc _ o (Or.inr rfl) (by first | (simp; done) | (simp; omega) | omega)); (try have hRg := fun o => hRc _ o (Or.inr (Or.inl rfl)) (by first | (simp; done) | (simp; omega) | omega)); (try have hRh := fun o => hRc _ o (Or.inr (Or.inr rfl)) (by first | (simp; done) | (simp; omega) | omega)); go_simp; first | rfl | rw [if_neg (by simp; omega)] | rw [if_neg (by omega)])
                            (try simp only [Act.put, List.setIfInBounds_toArray, List.set_cons_zero, List.set_cons_succ])
                            refine wpSch_q ?_ rfl rfl (fun w' hR => ?_) ?_
                            rotate_left
                            · (go_simp; first | rfl | rw [if_neg (by simp; omega)] | rw [if_neg (by omega)])
                            (try simp only [Act.put, List.setIfInBounds_toArray, List.set_cons_zero, List.set_cons_succ])
                            refine wpSch_q ?_ rfl rfl (fun w' hR => ?_) ?_
                            rotate_left
                            · (go_simp; first | rfl | rw [if_neg (by simp; omega)] | rw [if_neg (by omega)])
                            (try simp only [Act.put, List.setIfInBounds_toArray, List.set_cons_zero, List.set_cons_succ])
                            refine wpSch_q ?_ rfl rfl (fun w' hR => ?_) ?_
                            rotate_left
                            · (obtain ⟨hRs, hRc⟩ := hR; (try have hRd := fun o => hRc _ o rfl (by first | (simp; done) | (simp; omega) | omega)); (try have hRe := fun o => hRc _ o (Or.inl rfl) (by first | (simp; done) | (simp; omega) | omega)); (try have hRf := fun o => hRc _ o (Or.inr rfl) (by first | (simp; done) | (simp; omega) | omega)); (try have hRg := fun o => hRc _ o (Or.inr (Or.inl rfl)) (by first | (simp; done) | (simp; omega) | omega)); (try have hRh := fun o => hRc _ o (Or.inr (Or.inr rfl)) (by first | (simp; done) | (simp; omega) | omega)); go_simp; first | rfl | rw [if_neg (by simp; omega)] | rw [if_neg (by omega)])
                            (try simp only [Act.put, List.setIfInBounds_toArray, List.set_cons_zero, List.set_cons_succ])
                            refine wpSch_q ?_ rfl rfl (fun w' hR => ?_) ?_
                            rotate_left
                            · (obtain ⟨hRs, hRc⟩ := hR; (try have hRd := fun o => hRc _ o rfl (by first | (simp; done) | (simp; omega) | omega)); (try have hRe := fun o => hRc _ o (Or.inl rfl) (by first | (simp; done) | (simp; omega) | omega)); (try have hRf := fun o => hRc _ o (Or.inr rfl) (by first | (simp; done) | (simp; omega) | omega)); (try have hRg := fun o => hRc _ o (Or.inr (Or.inl rfl)) (by first | (simp; done) | (simp; omega) | omega)); (try have hRh := fun o => hRc _ o (Or.inr (Or.inr rfl)) (by first | (simp; done) | (simp; omega) | omega)); go_simp; first | rfl | rw [if_neg (by simp; omega)] | rw [if_neg (by omega)])
                            (try simp only [Act.put, List.setIfInBounds_toArray, List.set_cons_zero, List.set_cons_succ])
                            refine wpSch_q ?_ rfl rfl (fun w' hR => ?_) ?_
                            rotate_left
                            · (go_simp; first | rfl | rw [if_neg (by simp; omega)] | rw [if_neg (by omega)])
                            (try simp only [Act.put, List.setIfInBounds_toArray, List.set_cons_zero, List.set_cons_succ])
                            refine wpSch_e rfl rfl (fun K hK => ?_)
                            go_simp
                            refine (HPUT.out wr.drew ((hown.fr ((Fr.refl (S := fun _ => True) wr).drew) (fun _ _ _ => trivial)).row L hL4)).mono ?_
                            rintro e w9 ⟨A2, c2', rfl, hown', hb9⟩
                            refine hK _ _ (fun _ => RS.fr (S' := fun _ => True) (Fr.of_ext hb9) (fun _ _ _ => trivial)) ?_
                            clear hK K
                            (try simp only [Act.put, List.setIfInBounds_toArray, List.set_cons_zero, List.set_cons_succ])
                            (have hE9 : Ext wr w9 := (Ext.dr wr).trans' hb9; have bO9 := bO.ext hE9; have own9 := hown.put hL4 ⟨hE9.os, hE9.tape, hE9.output, hE9.size, fun k hk _ => hE9.block k hk⟩ (Own.lower (base' := O + 1) hown' (by show O + 1 ≤ wr.heap.size; omega)) (fun g e => .inr (hown'.blk g e).1); have hC9 := hC.ext_step hE9; clear o1 of t0 t1 t2 t3 t4 t5 hown' hE9 hb9; have o1 := bO9.cell (3 + L); rw [Live.cell _ _ hL4] at o1; have of := bO9.frozen)
                            refine wpSch_q ?_ rfl rfl (fun w' hR => ?_) ?_
                            rotate_left
                            · (go_simp; first | rfl | rw [if_neg (by simp; omega)] | rw [if_neg (by omega)])
                            (try simp only [Act.put, List.setIfInBounds_toArray, List.set_cons_zero, List.set_cons_succ])
                            refine wpSch_e rfl rfl (fun K hK => ?_)
                            go_simp
                            refine hK _ _ (fun h => absurd rfl h) ?_
                            clear hK K
                            (try simp only [Act.put, List.setIfInBounds_toArray, List.set_cons_zero, List.set_cons_succ])
                            refine wpSch_nil ?_
                            have bO3 : Box (w9.setCell ⟨O, 3 + L, none⟩ (.slice A2 ((o.tab L).length + 1) c2')) O 28 ((o.set L (putRef (o.tab L) t)).cells (q.set L A2 c2')) := by
                              have h := bO9.put (3 + L) (.slice A2 ((o.tab L).length + 1) c2')
                              rw [Live.cells_set _ _ hL4, putRef_len]
                              exact h
                            have own4 := own9.setCell (p := ⟨O, 3 + L, none⟩) (Nat.lt_succ_self O) (.slice A2 ((o.tab L).length + 1) c2')
                            have hC4 := hC9.set (p := ⟨O, 3 + L, none⟩) (.slice A2 ((o.tab L).length + 1) c2') (fun _ h => Nat.lt_irrefl O h)
                            have hkl2 : ∀ i, i < 4 → ((o.set L (putRef (o.tab L) t)).tab i).length ≤ 137438953472 + (k + 1) := fun i hi => by
                              by_cases h : i = L
                              · subst h
                                rw [Live.set_same, putRef_len]
                                have := hkl i hi
                                omega
                              · rw [Live.set_other _ _ h]
                                have := hkl i hi
                                omega
                            clear own9 hC9 bO9 hC hown bO o1 of k0 k4 hTC hd hd2 bT hTw hOw
                            go_wp2
                            exact ⟨⟨k + 1, o.set L (putRef (o.tab L) t), q.set L A2 c2', by omega, by simp, bO3, own4, hkl2, hC4, HCL⟩, by simp [intOf]; omega⟩
                · obtain rfl : k = e.add.length := by omega
                  have HZ : Hid (LivePost (applyWith putRef v e) = LivePost (o, 0)) := HAP.out (o, 0) (by
                    have h1 : addAll putRef e.next e.add (keptOf v e) = some o := by rw [hadd.out, List.drop_length]; rfl
                    simp [applyWith, HM.out, hlow, HDR.out, h1])
                  clear HAP hadd
                  have bR := bR6.fr hC (by omega)
                  have hXf := hOX _ hC
                  have o0 := bO.cell 0
                  have o1 := bO.cell 1
                  have o2 := bO.cell 2
                  have o3 := bO.cell 3
                  have o4 := bO.cell 4
                  have o5 := bO.cell 5
                  have o6 := bO.cell 6
                  have r0 := bR.cell 0
                  have r1 := bR.cell 1
                  have r2 := bR.cell 2
                  have r3 := bR.cell 3
                  have r4 := bR.cell 4
                  have r5 := bR.cell 5
                  have r6 := bR.cell 6
                  have rf := bR.frozen
                  simp only [Live.cells, List.getElem?_toArray, List.getElem?_cons_zero, List.getElem?_cons_succ] at o0 o1 o2 o3 o4 o5 o6 r0 r1 r2 r3 r4 r5 r6
                  clear hkl
                  (try simp only [Exit.then]); (try go_at_K); (try dsimp only); (repeat (first | go_values | go_skip | go_guarded | go_step | go_upon)); (try simp only [Exit.inBlock, Exit.then])
                  refine live_ret (v := o) (p := q) rfl rfl rfl rfl (bR.put7 _ _ _ _ _ _ _) ?_
                  rw [HZ.out]
                  exact LivePost.mk ((hown.put7 (by omega) _ _ _ _ _ _ _).at_ (by omega)) (Below.put7 hXf (by omega) _ _ _ _ _ _ _)
end Go.Proofs.YtmmaddmlfofgbaaDoor
