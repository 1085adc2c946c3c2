/- Logs read whole (layer 5): the document's walk. -/
import Derived.Test.YteplpgknnlehnaaAllRef
import Derived.Test.YteplpgknnlehnaaWalDec3
namespace Go.Proofs.Yteplpgknnlehnaa
set_option linter.unusedSimpArgs false
set_option linter.unusedVariables false
open Go.RowKit

def RepPost (s : List UInt8) (w : World) (e : Ending) (w' : World) : Prop :=
  ∃ (F : List (Nat × Frm)) (fin : Nat) (L : List LB) (A : Option Addr) (c B : Nat), FrAt s 0 F fin ∧ e = .returned (.tuple #[.slice A L.length c, .int .i64 ((runR fin ([], 0) F).2 : Int)]) ∧ L.map LB.b = (runR fin ([], 0) F).1 ∧ Bats w' B A c L ∧ L.length ≤ s.length ∧ w.heap.size ≤ B ∧ Ext w w'
theorem RepPost.mk {s : List UInt8} {w w' : World} {F : List (Nat × Frm)} {fin n : Nat} {L : List LB} {A : Option Addr} {c B : Nat} (h : FrAt s 0 F fin) (hr : runR fin ([], 0) F = (L.map LB.b, n)) (hb : Bats w' B A c L) (hl : L.length ≤ s.length) (hB : w.heap.size ≤ B) (hX : Ext w w') :
    RepPost s w (.returned (.tuple #[.slice A L.length c, .int .i64 (n : Int)])) w' := ⟨F, fin, L, A, c, B, h, by rw [hr], by rw [hr], hb, hl, hB, hX⟩

theorem runR_nil {fin : Nat} {st : List Batch × Nat} : runR fin st [] = (st.1, fin) := rfl
theorem runR_bad {fin : Nat} {st : List Batch × Nat} {x : Nat × Frm} {l : List (Nat × Frm)} (h : okW st.2 x = false) : runR fin st (x :: l) = (st.1, x.1) := by
  rw [runR, if_neg (by rw [h]; simp)]
theorem runR_ok {fin : Nat} {st : List Batch × Nat} {x : Nat × Frm} {l : List (Nat × Frm)} (h : okW st.2 x = true) : runR fin st (x :: l) = runR fin (st.1 ++ [(decodeBatch x.2.load).1], lastOf (decodeBatch x.2.load).1) l := by
  rw [runR, if_pos h]
theorem kind_two {k : UInt8} : k.toNat = 2 ↔ k = 2 := ⟨fun h => UInt8.toNat_inj.1 (by simpa using h), fun h => by rw [h]; rfl⟩

set_option maxRecDepth 100000 in
set_option maxHeartbeats 800000 in
theorem replay_ref (s : List UInt8) (hl : s.length ≤ 1099511627776) (w : World) : Calls Try.prog 29 #[str s] w (RepPost s w) := by
  have HA := Lib.hid (fun w => all_ref s hl w)
  go_enter Try.func29, Try.ntmps29
  go_wp2_with fail
  refine (HA.out _).mono ?_
  rintro _ w1 ⟨F, fin, AF, cF, rfl, hFr, hrF, hX1⟩
  obtain ⟨hfin, hF5, hFx⟩ := hFr.le (Nat.zero_le _)
  have HFX := Lib.hid hFx
  have HFR := Lib.hid hFr
  obtain ⟨B, hB⟩ : ∃ B, w1.heap.size = B := ⟨_, rfl⟩
  have hwB : w.heap.size ≤ B := by have := hX1.size; omega
  rw [hB] at hrF
  clear hFx hFr
  go_wp2_with fail
  go_loopw [4, 7, 8] (fun v4 v7 v8 wr => ∃ (i : Nat) (Q : List LB) (seq : Nat) (A : Option Addr) (c : Nat), i ≤ F.length ∧ v8 = .int .i64 i ∧ v4 = .slice A Q.length c ∧ v7 = .int .u64 seq ∧ seq ≤ 1125899906843000 ∧ Q.length ≤ i ∧
    Hid (runR fin ([], 0) F = runR fin (Q.map LB.b, seq) (F.drop i)) ∧ Bats wr B A c Q ∧ Ext w1 wr) (fun _ _ v _ => F.length - (intOf v).toNat)
  · exact ⟨0, [], 0, none, 0, by omega, rfl, rfl, rfl, by omega, by simp, rfl, Bats.nil_ _ _, Below.refl _ _⟩
  · obtain ⟨i, Q, seq, A, c, hi, rfl, rfl, rfl, hsq, hQ, hH, hbats, hX⟩ := hrel
    have hzB : B ≤ wr.heap.size := by have := hX.size; omega
    by_cases hlt : i < F.length
    · obtain ⟨x, hxe⟩ : ∃ x, F[i]? = some x := ⟨F[i], List.getElem?_eq_getElem hlt⟩
      obtain ⟨bb, off, rfl, hbl, hbw, hc⟩ := (hrF.below hX (by omega)).elem AtC_len rfl hxe
      have hxl := HFX.out x (List.mem_of_getElem? hxe)
      have hd : F.drop i = x :: F.drop (i + 1) := by
        rw [List.drop_eq_getElem_cons hlt]
        rw [List.getElem?_eq_getElem hlt] at hxe
        cases hxe
        rfl
      have hH' := hH.out
      rw [hd] at hH'
      obtain ⟨pl, kd, ld⟩ := x
      dsimp only at hxl
      have x0 := hc 0 _ rfl
      have x1 := hc 1 _ rfl
      have x2 := hc 2 _ rfl
      rw [Nat.add_zero] at x0
      have C := Lib.hid (fun w => decodeBatch_ref ld (by omega) w)
      obtain ⟨d1, d2⟩ := decodeBatch_seq ld
      have d3 := decodeBatch_err ld
      have d4 := fun h => (decodeBatch_ok (l := ld) h).2.1
      have HOK : Hid (∀ b n, decodeBatch ld = (b, n) → okW seq (pl, ⟨kd, ld⟩) = (decide (kd.toNat = 2) && decide (n = 0) && decide (seq < b.seq))) := by
        intro b n h
        rw [okW]
        dsimp only
        rw [h, show decide (kd = 2) = decide (kd.toNat = 2) from decide_eq_decide.2 kind_two.symm]
      have HN : Hid (∀ b n, decodeBatch ld = (b, n) → okW seq (pl, ⟨kd, ld⟩) = true → runR fin ([], 0) F = runR fin (Q.map LB.b ++ [b], lastOf b) (F.drop (i + 1))) := by
        intro b n h hok
        rw [hH', runR_ok hok]
        dsimp only
        rw [h]
      have HBAD := Lib.hid (fun h => hH'.trans (runR_bad (st := (Q.map LB.b, seq)) (x := (pl, ⟨kd, ld⟩)) (l := F.drop (i + 1)) h))
      obtain ⟨⟨sq, ps⟩, no, hdec⟩ : ∃ b n, decodeBatch ld = (b, n) := ⟨_, _, rfl⟩
      have HOK' := Lib.hid (HOK.out _ _ hdec)
      have HN' := Lib.hid (HN.out _ _ hdec)
      rw [hdec] at C d1 d2 d3 d4
      dsimp only at C d1 d2 d3 d4 HOK'
      have hkl := kd.toNat_lt
      obtain ⟨kn, hkn⟩ : ∃ kn, kd.toNat = kn := ⟨_, rfl⟩
      have x1' : wr.cell? ⟨bb, off + i * 3 + 1, none⟩ = some (.int .u8 (kn : Int)) := by rw [← hkn]; exact x1
      rw [hkn] at hkl HOK'
      have HXE := Lib.hid hxe
      clear hc x1 hd hH' hH HOK HN hdec hkn hxe
      go_wp2_with fail
      refine (C.out _).mono ?_
      rintro _ w2 ⟨A2, c2, rfl, hr2, hb2⟩
      dsimp only at *
      have hbats2 := hbats.ext hb2
      have hX2 := hX.trans' hb2
      have hb2a := hb2.trans' (Ext.al w2 (.cells #[.int .u64 sq, .slice A2 ps.length c2] 25))
      have y0 := (hb2a.cell (p := ⟨bb, off + i * 3, none⟩) (by simp; omega)).trans x0
      have y1 := (hb2a.cell (p := ⟨bb, off + i * 3 + 1, none⟩) (by simp; omega)).trans x1'
      have hz2 := hb2.size
      have hAhi : ∀ g, ownBlk A = some g → g < wr.heap.size := fun g e => (hbats.1.blk g e).2
      clear hbats hX x0 x1' x2 hb2 hb2a
      have bE := Box.new w2 25 #[.int .u64 sq, .slice A2 ps.length c2]
      by_cases hk : kn = 2
      · by_cases hn : no = 0
        · by_cases hs : seq < sq
          · have hok : okW seq (pl, ⟨kd, ld⟩) = true := by rw [HOK'.out]; simp [hk, hn, hs]
            have HNX := Lib.hid (HN'.out hok)
            subst hk hn
            have hp := d4 rfl
            have HL := Lib.hid (fun w => last_ref sq ps.length c2 A2 d1 (by omega) (by omega) w)
            clear hok HOK' HBAD HN' d4
            go_wp2_with fail
            (obtain ⟨w3, hw3⟩ : ∃ w3, w3 = World.alloc w2 (.cells #[.int .u64 sq, .slice A2 ps.length c2] 25) := ⟨_, rfl⟩); (have hbox_w3 : Box w3 (w2).heap.size 25 #[.int .u64 sq, .slice A2 ps.length c2] := by rw [hw3]; exact Box.new _ _ _); (have hE_w3 : Ext w2 w3 := by rw [hw3]; exact Ext.al _ _); (have hz_w3 : (w3).heap.size = (w2).heap.size + 1 := by rw [hw3]; simp); rw [← hw3]; clear hw3
            refine (HL.out _).mono ?_
            rintro _ w4 ⟨rfl, hb4⟩
            have hE4 := hE_w3.trans' hb4
            have bE4 := hbox_w3.ext hb4
            have hbats4 := hbats2.ext hE4
            have hX4 := hX2.trans' hE4
            have hr4 := hr2.below hE4 (Nat.le_refl _)
            have hz4 := hb4.size
            clear hbats2 hX2 hr2 hE4 hb4 hbox_w3 hE_w3 y0 y1 bE
            have e0 := bE4.cell 0
            have e1 := bE4.cell 1
            simp only [List.getElem?_toArray, List.getElem?_cons_zero, List.getElem?_cons_succ] at e0 e1
            go_wp2_with (at_builtin; refine wpList_push_at Try.batchesOf rfl _ _ rfl (⟨⟨sq, ps⟩, A2, c2, wr.heap.size, w2.heap.size⟩ : LB) rfl hbats4.1 rfl (by first | rfl | (simp; done) | (simp; rfl)) rfl (LB.cells_len _) (LB.one _) (by omega) (by omega) (by omega) ?_)
            rintro A' c' w10 hown' hg hat
            have hbp := hbats4.push (q := ⟨⟨sq, ps⟩, A2, c2, wr.heap.size, w2.heap.size⟩) ⟨hr4, by dsimp only; omega, by dsimp only; omega⟩ (fun g e => .inl (hAhi g e)) hown' hg hat
            have hX10 : Ext w1 w10 := hbats4.1.below_push hX4 (by omega) hX4.size hg
            go_wp2
            exact ⟨⟨i + 1, Q ++ [⟨⟨sq, ps⟩, A2, c2, wr.heap.size, w2.heap.size⟩], lastOf ⟨sq, ps⟩, A', c', by omega, by simp, by simp, by simp [lastOf], by simp [lastOf]; omega, by simp; omega, by unfold Hid; rw [HNX.out]; simp, hbp, hX10⟩, by simp [intOf]; omega⟩
          · have hok : okW seq (pl, ⟨kd, ld⟩) = false := by rw [HOK'.out]; simp [hs]
            have HF := Lib.hid (HBAD.out hok)
            have hbf : ∀ k, Bats ((w2.alloc (.cells #[.int .u64 sq, .slice A2 ps.length c2] 25)).drewN k) B A c Q := fun k => hbats2.ext (Fr.ext (((Fr.refl w2).alloc _).drewN k) (fun _ _ => trivial))
            have hXf : ∀ k, Ext w ((w2.alloc (.cells #[.int .u64 sq, .slice A2 ps.length c2] 25)).drewN k) := fun k => hX1.trans' (hX2.trans' (Fr.ext (((Fr.refl w2).alloc _).drewN k) (fun _ _ => trivial)))
            skip
            clear hok HOK' HBAD HN' d4 hbats2 hX2 bE
            go_wp2
            go_quiet (fail)
            go_wp2
            go_ret2
            exact RepPost.mk HFR.out HF.out (hbf _) (by omega) hwB (hXf _)
        · have hok : okW seq (pl, ⟨kd, ld⟩) = false := by rw [HOK'.out]; simp [hn]
          have HF := Lib.hid (HBAD.out hok)
          have hbf : ∀ k, Bats ((w2.alloc (.cells #[.int .u64 sq, .slice A2 ps.length c2] 25)).drewN k) B A c Q := fun k => hbats2.ext (Fr.ext (((Fr.refl w2).alloc _).drewN k) (fun _ _ => trivial))
          have hXf : ∀ k, Ext w ((w2.alloc (.cells #[.int .u64 sq, .slice A2 ps.length c2] 25)).drewN k) := fun k => hX1.trans' (hX2.trans' (Fr.ext (((Fr.refl w2).alloc _).drewN k) (fun _ _ => trivial)))
          (have hne : ((no : Int) != 0) = true := by simp; omega)
          clear hok HOK' HBAD HN' d4 hbats2 hX2 bE
          go_wp2
          go_quiet (fail)
          go_wp2
          go_ret2
          exact RepPost.mk HFR.out HF.out (hbf _) (by omega) hwB (hXf _)
      · have hok : okW seq (pl, ⟨kd, ld⟩) = false := by rw [HOK'.out]; simp [hk]
        have HF := Lib.hid (HBAD.out hok)
        have hbf : ∀ k, Bats ((w2.alloc (.cells #[.int .u64 sq, .slice A2 ps.length c2] 25)).drewN k) B A c Q := fun k => hbats2.ext (Fr.ext (((Fr.refl w2).alloc _).drewN k) (fun _ _ => trivial))
        have hXf : ∀ k, Ext w ((w2.alloc (.cells #[.int .u64 sq, .slice A2 ps.length c2] 25)).drewN k) := fun k => hX1.trans' (hX2.trans' (Fr.ext (((Fr.refl w2).alloc _).drewN k) (fun _ _ => trivial)))
        (have hne : ((kn : Int) != 2) = true := by simp; omega)
        clear hok HOK' HBAD HN' d4 hbats2 hX2 bE
        go_wp2
        go_quiet (fail)
        go_wp2
        go_ret2
        exact RepPost.mk HFR.out HF.out (hbf _) (by omega) hwB (hXf _)
    · obtain rfl : i = F.length := by omega
      have hH' := hH.out
      rw [List.drop_length, runR_nil] at hH'
      have HH := Lib.hid hH'
      clear hH' hH
      go_wp2
      go_ret2
      exact RepPost.mk HFR.out HH.out hbats (by omega) hwB (hX1.trans' hX)
end Go.Proofs.Yteplpgknnlehnaa
