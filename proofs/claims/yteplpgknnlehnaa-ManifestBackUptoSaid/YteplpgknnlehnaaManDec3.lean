/- What an edit's bytes say (layer 10): the document's walk. -/
import Derived.Test.YteplpgknnlehnaaManDec2
namespace Go.Proofs.Yteplpgknnlehnaa
set_option linter.unusedSimpArgs false
set_option linter.unusedVariables false
open Go.RowKit

/-- as DecPost, and the numbers' slice holds its length -/
def DecPostC (r : Edit × Int) (w : World) (e : Ending) (w' : World) : Prop := ∃ A A' c c', e = .returned (pairVal r.1 A A' c c' r.2) ∧ EditAt w' w'.heap.size r.1 A A' ∧ r.1.drop.length ≤ c' ∧ Ext w w'
theorem DecPostC.mk {e : Edit} {n : Int} {w w' : World} {A A' : Option Addr} {c c' : Nat} (h : EditAt w' w'.heap.size e A A') (hc : e.drop.length ≤ c') (hX : Ext w w') : DecPostC (e, n) w (.returned (pairVal e A A' c c' n)) w' := ⟨A, A', c, c', rfl, h, hc, hX⟩
theorem iterS_next {α : Type} {f : Rd → α × Rd} {k : Nat} {s0 s s' : Rd} {xs : List α} {x : α} (h : iterS f k s0 = (xs, s)) (hb : s.2 = false) (hx : f s = (x, s')) : iterS f (k + 1) s0 = (xs ++ [x], s') := by
  simp [iterS, h, hb, hx]
theorem iterS_end {α : Type} {f : Rd → α × Rd} {k m : Nat} {s0 s : Rd} {xs : List α} (h : iterS f k s0 = (xs, s)) (hk : k ≤ m) (hb : ¬ (k < m ∧ s.2 = false)) : iterS f m s0 = (xs, s) := by
  rcases Nat.lt_or_ge k m with h1 | h1
  · have h2 : (iterS f k s0).2.2 = true := by
      rw [h]
      cases h3 : s.2 with
      | true => rfl
      | false => exact absurd ⟨h1, h3⟩ hb
    rw [iterS_stop f h2 m hk, h]
  · obtain rfl : k = m := by omega
    exact h
set_option maxRecDepth 100000 in
set_option maxHeartbeats 800000 in
theorem decodeEdit_refC (l : List UInt8) (hl : l.length ≤ 1099511627776) (w : World) :
    Calls Try.prog 22 #[str l] w (DecPostC (decodeEdit l) w) := by
  have HD : Hid (decodeEdit l = editEnd l (rEdit (l, false))) := (decodeEdit_eq l).symm
  go_enter Try.func22, Try.ntmps22
  go_wp2_with fail
  obtain ⟨S, hS⟩ : ∃ S, w.heap.size = S := ⟨_, rfl⟩
  obtain ⟨w0, hw0⟩ : ∃ w0, w0 = (w.alloc (.cells #[.int .u64 0, .int .u64 0, .int .u64 0, .slice none 0 0, .slice none 0 0] 35)).alloc (.cells #[str l, .bool false] 93) := ⟨_, rfl⟩
  have bR0 : Box w0 S 35 #[.int .u64 0, .int .u64 0, .int .u64 0, .slice none 0 0, .slice none 0 0] := by rw [hw0]; exact (Box.new_at _ _ _ _ hS.symm).alloc _
  have bG0 : Box w0 (S + 1) 93 #[str (l, false).1, .bool (l, false).2] := by rw [hw0]; exact Box.new_at _ _ _ _ (by simp [hS])
  have hE0 : Ext w w0 := by rw [hw0]; (repeat (first | exact Below.refl _ _ | refine Ext.trans' ?_ (Ext.al _ _) | refine Ext.trans' ?_ (Ext.dr _) | refine Ext.trans' ?_ (by assumption)))
  rw [hS, ← hw0]
  clear hw0
  refine (readerUint_st 4611686018427387904 (by omega) (S + 1) (l, false) (by simp; omega) w0 bG0).mono ?_
  rintro _ w1 ⟨n1, s1, H1, hn1, hl1, rfl, bG1, hc1⟩
  dsimp only at hl1
  go_wp2_with fail
  refine (readerUint_st 4611686018427387904 (by omega) (S + 1) s1 (by omega) w1 bG1).mono ?_
  rintro _ w2 ⟨n2, s2, H2, hn2, hl2, rfl, bG2, hc2⟩
  go_wp2_with fail
  refine (readerUint_st 4611686018427387904 (by omega) (S + 1) s2 (by omega) w2 bG2).mono ?_
  rintro _ w3 ⟨n3, s3, H3, hn3, hl3, rfl, bG3, hc3⟩
  have hc := (hc1.trans hc2).trans hc3
  have bR3 := bR0.fr hc (by omega)
  have hE3 := Fr.ext ((Fr.of_ext (S := fun x => x < S) hE0).step hc (by omega)) (by omega)
  clear hc1 hc2 hc3 hc bR0 bG0 bG1 bG2 hE0
  go_wp2_with fail
  obtain ⟨E, hE⟩ : ∃ E, w3.heap.size = E := ⟨_, rfl⟩
  have hSE : S + 1 < E := by have := bG3.lt; omega
  (obtain ⟨w4, hw4⟩ : ∃ w4, w4 = World.alloc w3 (.cells #[.int .u64 n1, .int .u64 n2, .int .u64 n3, .slice none 0 0, .slice none 0 0] 35) := ⟨_, rfl⟩); (have hbox_w4 : Box w4 (w3).heap.size 35 #[.int .u64 n1, .int .u64 n2, .int .u64 n3, .slice none 0 0, .slice none 0 0] := by rw [hw4]; exact Box.new _ _ _); (have hE_w4 : Ext w3 w4 := by rw [hw4]; exact Ext.al _ _); (have hz_w4 : (w4).heap.size = (w3).heap.size + 1 := by rw [hw4]; simp); rw [← hw4]; clear hw4
  rw [hE] at hbox_w4 ⊢
  refine (readerUint_st 1000 (by omega) (S + 1) s3 (by omega) w4 (bG3.ext hE_w4)).mono ?_
  rintro _ w5 ⟨m, s4, H4, hm, hl4, rfl, bG5, hc5⟩
  have bE5 := hbox_w4.fr hc5 (by omega)
  have bR5 := (bR3.ext hE_w4).fr hc5 (by omega)
  have hE5 := Fr.ext ((Fr.of_ext (S := fun x => x < S) (hE3.trans' hE_w4)).step hc5 (by omega)) (by omega)
  clear hc5 bR3 bG3 hbox_w4 hE_w4 hz_w4 hE3
  go_wp2_with fail
  go_loopw [7] (fun v wr => ∃ (k : Nat) (xs : List Table) (st : Rd) (A : Option Addr) (c : Nat), k ≤ m ∧ v = .int .u64 k ∧ Hid (iterS rTable k s4 = (xs, st)) ∧ st.1.length ≤ l.length ∧ Box wr (S + 1) 93 #[str st.1, .bool st.2] ∧
    Box wr S 35 #[.int .u64 0, .int .u64 0, .int .u64 0, .slice none 0 0, .slice none 0 0] ∧
    Box wr E 35 #[.int .u64 n1, .int .u64 n2, .int .u64 n3, .slice A xs.length c, .slice none 0 0] ∧ Own wr (E + 1) 53 Table.cells 6 A c xs ∧ Ext w wr) (fun v _ => m - (intOf v).toNat)
  · exact ⟨0, [], s4, none, 0, by omega, rfl, rfl, by omega, bG5, bR5, bE5, Own.nil_, hE5⟩
  · clear bG5 bR5 bE5 hE5
    obtain ⟨k, xs, st, A, c, hk, rfl, hit, hlst, bG, bR, bE, hown, hX⟩ := hrel
    have hxl := iterS_len rTable k s4
    rw [hit.out] at hxl
    dsimp only at hxl
    have g1 := bG.cell 1
    simp only [List.getElem?_toArray, List.getElem?_cons_zero, List.getElem?_cons_succ] at g1
    by_cases hlt : k < m ∧ st.2 = false
    · obtain ⟨hlt, hst⟩ := hlt
      have HST := Lib.hid hst
      rw [hst] at g1
      clear hst
      go_wp2_with fail
      refine (readerUint_st 4611686018427387904 (by omega) (S + 1) st (by omega) wr bG).mono ?_
      rintro _ wa ⟨a1, r1, J1, ha1, hr1, rfl, bGa, hca⟩
      go_wp2_with fail
      refine (readerUint_st 3 (by omega) (S + 1) r1 (by omega) wa bGa).mono ?_
      rintro _ wb ⟨a2, r2, J2, ha2, hr2, rfl, bGb, hcb⟩
      go_wp2_with fail
      refine (readerUint_st 1073741824 (by omega) (S + 1) r2 (by omega) wb bGb).mono ?_
      rintro _ wc ⟨a3, r3, J3, ha3, hr3, rfl, bGc, hcc⟩
      go_wp2_with fail
      refine (readerUint_st 1073741824 (by omega) (S + 1) r3 (by omega) wc bGc).mono ?_
      rintro _ wd ⟨a4, r4, J4, ha4, hr4, rfl, bGd, hcd⟩
      go_wp2_with fail
      refine (readerText_st 96 (by omega) (S + 1) r4 (by omega) wd bGd).mono ?_
      rintro _ wf ⟨t5, r5, J5, ha5, hr5, rfl, bGf, hcf⟩
      go_wp2_with fail
      refine (readerText_st 96 (by omega) (S + 1) r5 (by omega) wf bGf).mono ?_
      rintro _ wg ⟨t6, r6, J6, ha6, hr6, rfl, bGg, hcg⟩
      have hcA : Chg (S + 1) wr wg := ((((hca.trans hcb).trans hcc).trans hcd).trans hcf).trans hcg
      have bRg := bR.fr hcA (by omega)
      have bEg := bE.fr hcA (by omega)
      have hog := hown.fr hcA (fun b hb _ => by omega)
      have hXg := Fr.ext ((Fr.of_ext (S := fun x => x < S) hX).step hcA (by omega)) (by omega)
      have HIT := Lib.hid (iterS_next hit.out HST.out (tableOf_mk J1.out J2.out J3.out J4.out J5.out J6.out))
      clear hca hcb hcc hcd hcf hcg hcA bG bR bE hown hX bGa bGb bGc bGd bGf J1 J2 J3 J4 J5 J6 hit g1 HST
      have ho1 := hog.alloc (.cells (⟨a1, a2, a3, a4, t5, t6⟩ : Table).cells.toArray 53)
      have hzg := bEg.lt
      have y3 := bEg.cell 3
      simp only [List.getElem?_toArray, List.getElem?_cons_zero, List.getElem?_cons_succ] at y3
      go_wp2_with (at_builtin; refine wpList_push Try.tablesOf rfl _ _ rfl (⟨a1, a2, a3, a4, t5, t6⟩ : Table) rfl ho1 rfl (by first | rfl | (simp; done) | (simp; rfl)) rfl (Table.cells_len _) (Table.one _) (by omega) (by omega) (by simp; omega) ?_)
      rintro A' c' w10 hown' hg
      have hne : ∀ g, ownBlk A = some g → E + 1 ≤ g := fun g e => (ho1.blk g e).1
      have hX1 := hXg.alloc hXg.size (.cells (⟨a1, a2, a3, a4, t5, t6⟩ : Table).cells.toArray 53)
      have bE2 := ((bEg.alloc (.cells (⟨a1, a2, a3, a4, t5, t6⟩ : Table).cells.toArray 53)).alloc (.cells (⟨a1, a2, a3, a4, t5, t6⟩ : Table).cells.toArray 53)).grown hg (fun e => by have := hne _ e.symm; omega)
      have bR2 := ((bRg.alloc (.cells (⟨a1, a2, a3, a4, t5, t6⟩ : Table).cells.toArray 53)).alloc (.cells (⟨a1, a2, a3, a4, t5, t6⟩ : Table).cells.toArray 53)).grown hg (fun e => by have := hne _ e.symm; omega)
      have bG2 := ((bGg.alloc (.cells (⟨a1, a2, a3, a4, t5, t6⟩ : Table).cells.toArray 53)).alloc (.cells (⟨a1, a2, a3, a4, t5, t6⟩ : Table).cells.toArray 53)).grown hg (fun e => by have := hne _ e.symm; omega)
      have hX2 := ho1.below_push hX1 (by omega) hX1.size hg
      clear bEg bRg bGg ho1 hog hXg hX1 hg hne y3 hzg
      have y3 := bE2.cell 3
      have yf := bE2.frozen
      simp only [List.getElem?_toArray, List.getElem?_cons_zero, List.getElem?_cons_succ] at y3
      go_wp2
      have bE3 := bE2.put 3 (.slice A' (xs.length + 1) c')
      simp only [List.setIfInBounds_toArray, List.set_cons_zero, List.set_cons_succ] at bE3
      exact ⟨⟨k + 1, xs ++ [⟨a1, a2, a3, a4, t5, t6⟩], r6, A', c', by omega, by simp, HIT, by omega, bG2.far (p := ⟨E, 3, none⟩) (by simp; omega) _, bR2.far (p := ⟨E, 3, none⟩) (by simp; omega) _, by rw [List.length_append]; exact bE3,
        hown'.setCell (p := ⟨E, 3, none⟩) (fun e => by have := (hown'.blk E e).1; omega) _, hX2.setCell (p := ⟨E, 3, none⟩) (by simp; omega) _⟩, by simp [intOf]; omega⟩
    · have hend := iterS_end hit.out hk hlt
      have HEND := Lib.hid hend
      have hkm : k < m → st.2 = true := fun h => by
        cases h3 : st.2 with
        | true => rfl
        | false => exact absurd ⟨h, h3⟩ hlt
      clear hlt hit hend
      have HBW := Lib.hid hown
      clear hown
      by_cases hlt : k < m
      all_goals
        first
        | (have hst := hkm hlt
           rw [hst] at g1
           clear hst hkm)
        | clear hkm
        have hown := HBW.out
        have hend := HEND.out
        clear HBW HEND
        go_wp2_with fail
        refine (readerUint_st 1000 (by omega) (S + 1) st (by omega) wr bG).mono ?_
        rintro _ w6 ⟨m2, s6, H6, hm2, hl6, rfl, bG6, hc6⟩
        have HIT := Lib.hid hend
        clear hend
        have bE6 := bE.fr hc6 (by omega)
        have bR6 := bR.fr hc6 (by omega)
        have hX6 := Fr.ext ((Fr.of_ext (S := fun x => x < S) hX).step hc6 (by omega)) (by omega)
        have hr6 := (hown.fr hc6 (fun b hb _ => by omega)).row
        obtain ⟨B, hB⟩ : ∃ B, w6.heap.size = B := ⟨_, rfl⟩
        have hEB : E < B := by have := bE6.lt; omega
        rw [hB] at hr6
        clear bG bE bR hown hX hc6 g1
        go_wp2_with fail
        go_loopw [9] (fun v wr => ∃ (k : Nat) (ds : List Nat) (st : Rd) (A' : Option Addr) (c' : Nat), k ≤ m2 ∧ v = .int .u64 k ∧ Hid (iterS uint62 k s6 = (ds, st)) ∧ st.1.length ≤ l.length ∧ Box wr (S + 1) 93 #[str st.1, .bool st.2] ∧
          Box wr S 35 #[.int .u64 0, .int .u64 0, .int .u64 0, .slice none 0 0, .slice none 0 0] ∧
          Box wr E 35 #[.int .u64 n1, .int .u64 n2, .int .u64 n3, .slice A xs.length c, .slice A' ds.length c'] ∧ Own wr B 22 u64C 1 A' c' ds ∧ Row wr (E + 1) B 6 A xs.length (xs.flatMap Table.cells) ∧ B ≤ wr.heap.size ∧ Ext w wr) (fun v _ => m2 - (intOf v).toNat)
        · exact ⟨0, [], s6, none, 0, by omega, rfl, rfl, by omega, bG6, bR6, bE6, Own.nil_, hr6, by omega, hX6⟩
        · clear bG6 bR6 bE6 hr6 hX6
          obtain ⟨j, ds, st', A', c', hj, rfl, hit', hlst', bG, bR, bE, hown, hrow, hBw, hX⟩ := hrel
          have hxl := iterS_len uint62 j s6
          rw [hit'.out] at hxl
          dsimp only at hxl
          have g1 := bG.cell 1
          simp only [List.getElem?_toArray, List.getElem?_cons_zero, List.getElem?_cons_succ] at g1
          by_cases hlt : j < m2 ∧ st'.2 = false
          · obtain ⟨hlt, hst⟩ := hlt
            have HST := Lib.hid hst
            rw [hst] at g1
            clear hst
            go_wp2_with fail
            refine (readerUint_st 4611686018427387904 (by omega) (S + 1) st' (by omega) wr bG).mono ?_
            rintro _ wa ⟨d1, r1, J1, hd1, hr1, rfl, bGa, hca⟩
            have bEa := bE.fr hca (by omega)
            have bRa := bR.fr hca (by omega)
            have hoa := hown.fr hca (fun b hb _ => by omega)
            have hrowa := hrow.fr hca hBw (fun b _ _ => by omega)
            have hXa := Fr.ext ((Fr.of_ext (S := fun x => x < S) hX).step hca (by omega)) (by omega)
            have hBa := Nat.le_trans hBw hca.size
            have HITN := Lib.hid (iterS_next hit'.out HST.out J1.out)
            clear bG bR bE hown hrow hX hca g1 HST J1 hit'
            have y4 := bEa.cell 4
            simp only [List.getElem?_toArray, List.getElem?_cons_zero, List.getElem?_cons_succ] at y4
            go_wp2_with (at_builtin; refine wpList_push Try.numbersOf rfl _ _ rfl d1 rfl hoa rfl (by first | rfl | (simp; done) | (simp; rfl)) rfl (u64C_len _) (u64C_one _) (by omega) (by omega) hBa ?_)
            rintro A'' c'' w10 hown' hg
            have hcx : Fr (fun b => b < B) wa w10 := ((Fr.refl wa).alloc _).grown_step hg (fun g e _ h => by have := (hoa.blk g e).1; omega)
            have bE2 := bEa.fr hcx (by omega)
            have bR2 := bRa.fr hcx (by omega)
            have bG2 := bGa.fr hcx (by omega)
            have hrow2 := hrowa.fr hcx hBa (fun b _ _ => by omega)
            have hX2 := Fr.ext ((Fr.of_ext (S := fun x => x < S) hXa).step hcx (by omega)) (by omega)
            have hBw2 := Nat.le_trans hBa hcx.size
            clear bEa bRa hoa hrowa hXa hBa hcx hg bGa y4
            have y4 := bE2.cell 4
            have yf := bE2.frozen
            simp only [List.getElem?_toArray, List.getElem?_cons_zero, List.getElem?_cons_succ] at y4
            go_wp2
            have bE3 := bE2.put 4 (.slice A'' (ds.length + 1) c'')
            simp only [List.setIfInBounds_toArray, List.set_cons_zero, List.set_cons_succ] at bE3
            exact ⟨⟨j + 1, ds ++ [d1], r1, A'', c'', by omega, by simp, HITN, by omega, bG2.far (p := ⟨E, 4, none⟩) (by simp; omega) _, bR2.far (p := ⟨E, 4, none⟩) (by simp; omega) _, by rw [List.length_append]; exact bE3,
              hown'.setCell (p := ⟨E, 4, none⟩) (fun e => by have := (hown'.blk E e).1; omega) _, hrow2.setCell (p := ⟨E, 4, none⟩) (by simp) _, by simpa using hBw2, hX2.setCell (p := ⟨E, 4, none⟩) (by simp; omega) _⟩, by simp [intOf]; omega⟩
          · have hend' := iterS_end hit'.out hj hlt
            have hkm : j < m2 → st'.2 = true := fun h => by
              cases h3 : st'.2 with
              | true => rfl
              | false => exact absurd ⟨h, h3⟩ hlt
            clear hlt hit'
            have hpe : rEdit (l, false) = (⟨n1, n2, n3, xs, ds⟩, st') := by
              unfold rEdit editOf
              dsimp only
              rw [show uint62 (l, false) = (n1, s1) from H1.out]; dsimp only
              rw [show uint62 s1 = (n2, s2) from H2.out]; dsimp only
              rw [show uint62 s2 = (n3, s3) from H3.out]; dsimp only
              rw [H4.out]; dsimp only
              rw [HIT.out]; dsimp only
              rw [H6.out]; dsimp only
              rw [hend']
            have ht : ∀ t ∈ xs, t.Ok := by
              have := iterS_all (f := rTable) (p := Table.Ok) (tableOf_ok (by omega) (by omega) (by omega) (by omega)) m s4
              rw [HIT.out] at this
              exact this
            have hd : ∀ n ∈ ds, n < M64 := by
              have := iterS_all (f := uint62) (p := (· < M64)) uint62_lt m2 s6
              rw [hend'] at this
              exact this
            have hxm : xs.length ≤ m := by
              have := iterS_len rTable m s4
              rw [HIT.out] at this
              exact this
            have hok : (⟨n1, n2, n3, xs, ds⟩ : Edit).Ok := ⟨by unfold M64; dsimp only; omega, by unfold M64; dsimp only; omega, by unfold M64; dsimp only; omega, ht, hd, by dsimp only; omega, by dsimp only; omega⟩
            have hat : EditAt wr wr.heap.size ⟨n1, n2, n3, xs, ds⟩ A A' := ⟨hrow.wide (by omega) hBw, hown.row.wide (by omega) (Nat.le_refl _)⟩
            have hDD := HD.out
            rw [hpe] at hDD
            have HDD := Lib.hid hDD
            have HRA := Lib.hid (hrow.wide (Nat.le_refl _) hBw)
            have HCAP : Hid (ds.length ≤ c') := by
              rcases hown.2 with ⟨h1, h2⟩ | ⟨g, cap, cur, h1, _, _, h4, _⟩
              · show ds.length ≤ c'
                omega
              · injection h1 with _ _ h9
                show ds.length ≤ c'
                omega
            have HRD := Lib.hid (hown.row.wide (by omega : E + 1 ≤ B) (Nat.le_refl _))
            have HMY := Lib.hid (editMay_ref ⟨n1, n2, n3, xs, ds⟩ hok A A' c c' wr hat)
            clear hpe ht hd hok hat hDD HD H1 H2 H3 H4 HIT H6 hend' hown hrow
            have y0 := bE.cell 0
            have y1 := bE.cell 1
            have y2 := bE.cell 2
            have y3 := bE.cell 3
            have y4 := bE.cell 4
            simp only [List.getElem?_toArray, List.getElem?_cons_zero, List.getElem?_cons_succ] at y0 y1 y2 y3 y4
            have hend : (st'.2 || !st'.1.isEmpty || !(⟨n1, n2, n3, xs, ds⟩ : Edit).may || decide (262144 < l.length)) = true → decodeEdit l = (noEdit, 3) := fun h => by
              rw [HDD.out, editEnd]; dsimp only; rw [h]; simp
            have hgood : st'.2 = false → st'.1 = [] → (⟨n1, n2, n3, xs, ds⟩ : Edit).may = true → l.length ≤ 262144 → decodeEdit l = (⟨n1, n2, n3, xs, ds⟩, 0) := fun h1 h2 h3 h4 => by
              rw [HDD.out, editEnd, if_neg (by simp [h1, h2, h3]; omega)]
            have HEND := Lib.hid hend
            have HGOOD := Lib.hid hgood
            clear hend hgood HDD
            obtain ⟨mb, hmb⟩ : ∃ mb, (⟨n1, n2, n3, xs, ds⟩ : Edit).may = mb := ⟨_, rfl⟩
            rw [hmb] at HEND HGOOD HMY
            clear hmb
            by_cases hlt : j < m2
            all_goals
              first
              | (have hst := hkm hlt
                 rw [hst] at g1
                 clear hst)
              | skip
              have HKM := Lib.hid hkm
              clear hkm
              go_wp2_with fail
              refine HMY.out.mono ?_
              rintro _ w7 ⟨rfl, hb7⟩
              have bR7 := bR.ext hb7
              have bE7 := bE.ext hb7
              have bG7 := bG.ext hb7
              have hX7 := hX.trans' hb7
              have HRA7 := Lib.hid (HRA.out.below hb7 (Nat.le_refl _))
              have HRD7 := Lib.hid (HRD.out.below hb7 (Nat.le_refl _))
              have hz7 := hb7.size
              clear bR bE bG hX y0 y1 y2 y3 y4 g1
              have y0 := bE7.cell 0
              have y1 := bE7.cell 1
              have y2 := bE7.cell 2
              have y3 := bE7.cell 3
              have y4 := bE7.cell 4
              have r0 := bR7.cell 0
              have r1 := bR7.cell 1
              have r2 := bR7.cell 2
              have r3 := bR7.cell 3
              have r4 := bR7.cell 4
              have rf := bR7.frozen
              have g0 := bG7.cell 0
              have g1 := bG7.cell 1
              simp only [List.getElem?_toArray, List.getElem?_cons_zero, List.getElem?_cons_succ] at y0 y1 y2 y3 y4 r0 r1 r2 r3 r4 g0 g1
              obtain ⟨sl, sb⟩ := st'
              dsimp only at *
              by_cases hbad : (sb || !sl.isEmpty || !mb || decide (262144 < l.length)) = true
              · have HZ := Lib.hid (HEND.out hbad)
                clear HEND HGOOD
                cases sb with
                | true =>
                  (try dsimp only); (repeat (first | go_values | go_skip | go_guarded | go_step | go_upon)); (try simp only [Exit.inBlock, Exit.then])
                  exact dec_ret rfl rfl rfl rfl (bR7.put5 _ _ _ _ _) (by rw [HZ.out]; exact (DecPostC.mk (A := none) (A' := none) (c := 0) (c' := 0) (EditAt.none _) (Nat.le_refl 0) (Below.put5 hX7 (Nat.le_of_eq hS) _ _ _ _ _)))
                | false =>
                  cases sl with
                  | cons b sl =>
                    (try dsimp only); (repeat (first | go_values | go_skip | go_guarded | go_step | go_upon)); (try simp only [Exit.inBlock, Exit.then])
                    exact dec_ret rfl rfl rfl rfl (bR7.put5 _ _ _ _ _) (by rw [HZ.out]; exact (DecPostC.mk (A := none) (A' := none) (c := 0) (c' := 0) (EditAt.none _) (Nat.le_refl 0) (Below.put5 hX7 (Nat.le_of_eq hS) _ _ _ _ _)))
                  | nil =>
                    cases mb with
                    | false =>
                      (try dsimp only); (repeat (first | go_values | go_skip | go_guarded | go_step | go_upon)); (try simp only [Exit.inBlock, Exit.then])
                      exact dec_ret rfl rfl rfl rfl (bR7.put5 _ _ _ _ _) (by rw [HZ.out]; exact (DecPostC.mk (A := none) (A' := none) (c := 0) (c' := 0) (EditAt.none _) (Nat.le_refl 0) (Below.put5 hX7 (Nat.le_of_eq hS) _ _ _ _ _)))
                    | true =>
                      have hll : 262144 < l.length := by simpa using hbad
                      (try dsimp only); (repeat (first | go_values | go_skip | go_guarded | go_step | go_upon)); (try simp only [Exit.inBlock, Exit.then])
                      exact dec_ret rfl rfl rfl rfl (bR7.put5 _ _ _ _ _) (by rw [HZ.out]; exact (DecPostC.mk (A := none) (A' := none) (c := 0) (c' := 0) (EditAt.none _) (Nat.le_refl 0) (Below.put5 hX7 (Nat.le_of_eq hS) _ _ _ _ _)))
              · simp at hbad
                obtain ⟨⟨⟨rfl, rfl⟩, rfl⟩, hll⟩ := hbad
                have HZ := Lib.hid (HGOOD.out rfl rfl rfl hll)
                clear HEND HGOOD
                (try dsimp only); (repeat (first | go_values | go_skip | go_guarded | go_step | go_upon)); (try simp only [Exit.inBlock, Exit.then])
                exact dec_ret rfl rfl rfl rfl (bR7.put5 _ _ _ _ _) (by rw [HZ.out]; exact (DecPostC.mk (e := ⟨n1, n2, n3, xs, ds⟩) ⟨HRA7.out.put5 (by omega) hz7 _ _ _ _ _, HRD7.out.put5 (by omega) hz7 _ _ _ _ _⟩ HCAP.out (Below.put5 hX7 (Nat.le_of_eq hS) _ _ _ _ _)))
theorem decodeEdit_ref (l : List UInt8) (hl : l.length ≤ 1099511627776) (w : World) :
    Calls Try.prog 22 #[str l] w (DecPost (decodeEdit l) w) :=
  (decodeEdit_refC l hl w).mono fun _ _ ⟨A, A', c, c', h1, h2, _, h4⟩ => ⟨A, A', c, c', h1, h2, h4⟩
end Go.Proofs.Yteplpgknnlehnaa
