/- Parts of this work, one behind the other: Rfu. -/
import Derived.Test.YtkblkdnihppmnaaGreatDoorPkv2
import Derived.Test.YtkblkdnihppmnaaGreatDoorPkv39
import Derived.Test.YtkblkdnihppmnaaGreatDoorPkv28
import Derived.Test.YtkblkdnihppmnaaGreatDoorPkv32
/- Filters (layer 21): the document's Text (walk; printed by gen_ru.py). -/
namespace Go.Proofs.YtkblkdnihppmnaaGreatDoor
set_option linter.unusedSimpArgs false
set_option linter.unusedVariables false
open Go.RowKit Res Filt

theorem words_at {ws : List (List UInt8)} {k : Nat} (h : k < ws.length) : (ws.map str)[k]? = some (str (ws.getD k [])) := by
  rw [List.getElem?_map, List.getElem?_eq_getElem h, List.getD_eq_getElem?_getD, List.getElem?_eq_getElem h]
  rfl
theorem idtT_is (k : Nat) (t : List UInt8) : Filt.idtT k t = (((fieldNames.getD 13 [] ++ [32]) ++ askNames.getD k []) ++ [32]) ++ (([34] ++ t) ++ [34]) := by
  simp [Filt.idtT, fieldNames]
set_option maxRecDepth 100000 in
set_option maxHeartbeats 800000 in
theorem ref_bracketed (t : List UInt8) (kd : Int) (ht : t.length ≤ 3000000) (w : World) : Calls Tryz.prog 27 #[.agg #[str t, fi kd]] w fun e w' => e = .returned (str (brk t)) ∧ Ext w w' := by
  have M := Mem.start w
  have C1 := Lib.hid (run_cat [40] t (by simp; omega))
  have C2 := Lib.hid (run_cat ([40] ++ t) [41] (by simp; omega))
  go_enter Tryz.func27, Tryz.ntmps27
  (try dsimp only); (repeat (first | (first | ((with_reducible refine on_bin ?_); (first | refine wp_bin rfl rfl rfl rfl (C1.out _) ?_ | refine wp_bin rfl rfl rfl rfl (C2.out _) ?_); (first | ((with_reducible refine fastK Tryz.prog rfl ?_); go_big_move) | (with_reducible refine fastN rfl ?_) | skip)) | ((with_reducible refine on_load ?_); (first | refine xl1 M ?_ | refine xlN M ?_); go_big_move) | ((with_reducible refine on_box ?_); refine xb M ?_; clear M; intro g w' M; go_big_move)) | go_values | go_skip | go_guarded | go_step | go_upon))
  exact ret_m1 rfl (Out.tmp rfl) rfl ⟨rfl, M.ext_of⟩
set_option maxRecDepth 100000 in
set_option maxHeartbeats 8000000 in
theorem rText_some (xs : List FN) (hok : ∀ x ∈ xs, FV x) (t0 : List UInt8) (k0 : Nat) (hrun : Filt.runT Filt.numT Filt.idtT [] xs = some [(t0, k0)]) (gf cf : Nat) (hlen : xs.length ≤ 10000) (w : World) (hgf : gf < w.heap.size) (hcell : ∀ k x, xs[k]? = some x → ∀ j u, (fnV x)[j]? = some u → w.cell? ⟨gf, k * 5 + j, none⟩ = some u) :
    Calls Tryz.prog 13 #[.slice (some ⟨gf, 0, none⟩) xs.length cf] w fun e w' => e = .returned (str t0) ∧ Ext w w' := by
  have M := (Mem.start w).nil_ 69 pV 2
  have HC := Lib.hid hcell
  have HR := Lib.hid hrun
  have HOK := Lib.hid hok
  clear hcell hrun hok
  go_enter Tryz.func13, Tryz.ntmps13
  (try dsimp only); (repeat (first | (first | ((with_reducible refine wl_g ?_); first | go_big_want | go_skip | ((with_reducible refine wl_off (by kernel_rfl) ?_); (first | ((with_reducible refine fastK Tryz.prog rfl ?_); go_big_move) | (with_reducible refine fastN rfl ?_) | skip))) | ((with_reducible refine on_load ?_); (first | refine xl1 M ?_ | refine xlN M ?_); go_big_move) | ((with_reducible refine on_store ?_); (first | refine xs1 M ?_ | refine xsN M ?_); clear M; intro w' M; (try simp only [List.set_cons_zero, List.set_cons_succ] at M))) | go_values | go_skip | go_guarded | go_step | go_upon))
  go_loopw [3, 4] (fun x y wr => ∃ (k : Nat) (rt : List (List UInt8 × Nat)) (A : Option Addr) (c : Nat), x = .slice A rt.length c ∧ y = fi (k : Int) ∧ TRel xs w k rt A c wr) (fun _ y _ => xs.length - (intOf y).toNat)
  · exact ⟨0, [], none, 0, rfl, rfl, by omega, by simp, by simp [sumT], by simp, Lib.hid rfl, M⟩
  · clear M
    obtain ⟨k, rt, A, c, rfl, rfl, hk, hrt, hsum, hkind, HP, M⟩ := hrel
    rcases Nat.lt_or_ge k xs.length with hlt | hge
    · have q1 : decide ((k : Int) < (xs.length : Int)) = true := by simp; omega
      obtain ⟨x, hx⟩ : ∃ x, xs[k]? = some x := ⟨_, List.getElem?_eq_getElem hlt⟩
      have hxo := HOK.out x (List.mem_of_getElem? hx)
      obtain ⟨rt', hst, hN⟩ := runT_step HR.out HP.out hx
      have HN := Lib.hid hN
      have HL := Lib.hid (show sumT rt' ≤ 100 * (k + 1) by have := stepT_len hxo hst; omega)
      have HKI := Lib.hid (stepT_kind hkind hst)
      have hwk : IntKind.i64.wrap ((k : Int) + 1) = (k : Int) + 1 := IntWalk.i64_in _ (by omega)
      have HX := Lib.hid (HC.out k x hx)
      have hs1 : sumT rt ≤ 1000000 := by omega
      clear hN hx hsum
      cases x with
      | num f q n =>
        cases hst
        have hf13 := hxo.1
        have hq6 := hxo.2.1
        have hn := hxo.2.2
        have HD : Hid (∀ w, Calls Tryz.prog 23 #[fi n] w fun e w' => e = .returned (str (Lib.itoa n)) ∧ Ext w w') := Lib.hid (ref_decimal n hn)
        have HW0 := Lib.hid ref_fields
        have HW1 := Lib.hid ref_asks
        have HA := Lib.hid (words_at (ws := askNames) (k := q) hq6)
        have hal := ask_len q
        rw [numT_is] at HN HL HKI
        unfold numT' at HN HL HKI
        clear hxo hkind
        have hrl : rt.length ≤ 10000 := by omega
        generalize askNames.getD q [] = ak at HN HL HKI HA hal
        by_cases hf2 : f = 2
        · subst hf2
          have HF := Lib.hid (words_at (ws := fieldNames) (k := 2) (by decide))
          have hnl := field_len 2
          generalize fieldNames.getD 2 [] = nm at HN HL HKI HF hnl
          by_cases hs : 1 ≤ n ∧ n ≤ 7
          · rw [if_pos ⟨rfl, hs⟩] at HN HL HKI
            obtain ⟨hn1, hn7⟩ := hs
            obtain ⟨m, rfl⟩ : ∃ m : Nat, n = (m : Int) := ⟨n.toNat, by omega⟩
            have hm : ((m : Int)).toNat - 1 = m - 1 := by omega
            rw [hm] at HN HL HKI
            have q5 : decide (1 ≤ (m : Int)) = true := by simp; omega
            have q6 : decide ((m : Int) ≤ 7) = true := by simp; omega
            have hm1 : 1 ≤ m := by omega
            have hm8 : m < 8 := by omega
            have HW2 := Lib.hid ref_statuses
            have HS : Hid (((([] : List UInt8) :: statusNames).map str)[m]? = some (str (statusNames.getD (m - 1) []))) := Lib.hid (by
              have h := words_at (ws := ([] : List UInt8) :: statusNames) (k := m) hm8
              rw [h]
              obtain ⟨j, rfl⟩ : ∃ j, m = j + 1 := ⟨m - 1, by omega⟩
              rfl)
            have hsl := status_len (m - 1)
            clear hm hn hn1 hn7
            generalize statusNames.getD (m - 1) [] = v at HN HL HKI HS hsl
            have H0 : Hid (w.cell? ⟨gf, k * 5, none⟩ = some (fi 0)) := Lib.hid (HX.out 0 _ rfl)
            have H1 : Hid (w.cell? ⟨gf, k * 5 + 1, none⟩ = some (fi 2)) := Lib.hid (HX.out 1 _ rfl)
            have H2 : Hid (w.cell? ⟨gf, k * 5 + 2, none⟩ = some (fi (q : Int))) := Lib.hid (HX.out 2 _ rfl)
            have H3 : Hid (w.cell? ⟨gf, k * 5 + 3, none⟩ = some (fi (m : Int))) := Lib.hid (HX.out 3 _ rfl)
            have H4 : Hid (w.cell? ⟨gf, k * 5 + 4, none⟩ = some (str [])) := Lib.hid (HX.out 4 _ rfl)
            obtain ⟨n1, hn1⟩ : ∃ z, nm ++ [32] = z := ⟨_, rfl⟩
            rw [hn1] at HN HL HKI
            have C3 : Hid (∀ w, (binOp BinOp.add 9 (str nm) (str [32])).run Tryz.prog w = .ok (str n1) w) := Lib.hid (fun w => by rw [← hn1]; exact run_cat nm [32] (by (try simp only [List.length_cons, List.length_nil]); omega) w)
            have ln1 : n1.length ≤ 9 := by rw [← hn1, List.length_append]; (try simp only [List.length_cons, List.length_nil]); omega
            clear hn1
            obtain ⟨n2, hn2⟩ : ∃ z, n1 ++ ak = z := ⟨_, rfl⟩
            rw [hn2] at HN HL HKI
            have C4 : Hid (∀ w, (binOp BinOp.add 9 (str n1) (str ak)).run Tryz.prog w = .ok (str n2) w) := Lib.hid (fun w => by rw [← hn2]; exact run_cat n1 ak (by (try simp only [List.length_cons, List.length_nil]); omega) w)
            have ln2 : n2.length ≤ 11 := by rw [← hn2, List.length_append]; (try simp only [List.length_cons, List.length_nil]); omega
            clear hn2
            obtain ⟨n3, hn3⟩ : ∃ z, n2 ++ [32] = z := ⟨_, rfl⟩
            rw [hn3] at HN HL HKI
            have C5 : Hid (∀ w, (binOp BinOp.add 9 (str n2) (str [32])).run Tryz.prog w = .ok (str n3) w) := Lib.hid (fun w => by rw [← hn3]; exact run_cat n2 [32] (by (try simp only [List.length_cons, List.length_nil]); omega) w)
            have ln3 : n3.length ≤ 12 := by rw [← hn3, List.length_append]; (try simp only [List.length_cons, List.length_nil]); omega
            clear hn3
            obtain ⟨n4, hn4⟩ : ∃ z, n3 ++ v = z := ⟨_, rfl⟩
            rw [hn4] at HN HL HKI
            have C6 : Hid (∀ w, (binOp BinOp.add 9 (str n3) (str v)).run Tryz.prog w = .ok (str n4) w) := Lib.hid (fun w => by rw [← hn4]; exact run_cat n3 v (by (try simp only [List.length_cons, List.length_nil]); omega) w)
            have ln4 : n4.length ≤ 60 := by rw [← hn4, List.length_append]; (try simp only [List.length_cons, List.length_nil]); omega
            clear hn4
            as_aux_lemma =>
            (try dsimp only); (repeat (first | (first | ((with_reducible refine on_load ?_); refine xlC (M.far H0.out) ?_; go_big_move) | ((with_reducible refine on_load ?_); refine xlC (M.far H1.out) ?_; go_big_move) | ((with_reducible refine on_load ?_); refine xlC (M.far H2.out) ?_; go_big_move) | ((with_reducible refine on_load ?_); refine xlC (M.far H3.out) ?_; go_big_move) | ((with_reducible refine on_load ?_); refine xlC (M.far H4.out) ?_; go_big_move) | (go_at_call 23; (with_reducible refine (HD.out _).mono ?_); rintro _ w1 ⟨rfl, hX⟩; replace M := M.ext hX; clear hX; dsimp only) | ((with_reducible refine on_region 15 ?_); refine wp_region_keepO M (A) 9 [(1, true), (2, true), (3, true), (4, true), (5, true), (0, false), (6, true), (7, true), (8, true)] (by kernel_rfl) (by kernel_rfl) (fun _ _ d _ _ h => by cases d <;> exact h) ?_; clear M; intro w' M; (iterate 4 ((refine wpSch_q ?_ rfl rfl (fun w' hR => ?_) ?_); rotate_left; (focus (go_simp; first | rfl | rw [if_neg (by simp; omega)] | rw [if_neg (by omega)] | rw [if_pos (by omega)] | (rw [if_pos (by omega)]; simp; done))); (first | simp only [Act.put, List.setIfInBounds_toArray, List.set_cons_zero, List.set_cons_succ] | skip))); (refine sch_cellO rfl _ _ rfl _ (M.far H3.out) (M.ne_far pk hgf) (fun w => ⟨by first | (simp [go_sem]; done) | (simp [go_sem]; rfl), by first | (simp [go_sem]; done) | (simp [go_sem]; rfl)⟩) ?_; (first | simp only [Act.put, List.setIfInBounds_toArray, List.set_cons_zero, List.set_cons_succ] | skip)); (refine wpSch_e rfl rfl (fun K hK => ?_); go_simp; refine (HW2.out _).mono ?_; rintro _ w1 ⟨gW, rfl, hX, hgz, hB⟩; refine hK _ _ (fun _ => keepO.ext hX) ?_; replace M := M.new hX (bx gW 9 ((([] : List UInt8) :: statusNames).map str)) hB (fun b hb => by have hb : b = gW := hb; omega); clear hgz hB; clear hK K; (first | simp only [Act.put, List.setIfInBounds_toArray, List.set_cons_zero, List.set_cons_succ] | skip)); ((refine wpSch_q ?_ rfl rfl (fun w' hR => ?_) ?_); rotate_left; (focus (go_simp; first | rfl | rw [if_neg (by simp; omega)] | rw [if_neg (by omega)] | rw [if_pos (by omega)] | (rw [if_pos (by omega)]; simp; done))); (first | simp only [Act.put, List.setIfInBounds_toArray, List.set_cons_zero, List.set_cons_succ] | skip)); (refine sch_cellO rfl _ _ rfl _ (M.at_ (cs := (([] : List UInt8) :: statusNames).map str) pk (m) _ HS.out) (M.ne_ow tk) (fun w => ⟨by first | (simp [go_sem]; done) | (simp [go_sem]; rfl), by first | (simp [go_sem]; done) | (simp [go_sem]; rfl)⟩) ?_; (first | simp only [Act.put, List.setIfInBounds_toArray, List.set_cons_zero, List.set_cons_succ] | skip)); ((refine wpSch_q ?_ rfl rfl (fun w' hR => ?_) ?_); rotate_left; (focus (go_simp; first | rfl | rw [if_neg (by simp; omega)] | rw [if_neg (by omega)] | rw [if_pos (by omega)] | (rw [if_pos (by omega)]; simp; done))); (first | simp only [Act.put, List.setIfInBounds_toArray, List.set_cons_zero, List.set_cons_succ] | skip)); refine wpSch_nil ?_) | ((with_reducible refine on_region 16 ?_); refine wp_region_keepO M (A) 26 [(0, true), (2, true), (3, true), (4, true), (5, true), (6, true), (11, true), (12, true), (13, true), (14, true), (15, true), (20, true), (1, false), (7, true), (8, true), (9, true), (10, false), (16, true), (17, true), (18, true), (19, true), (21, true), (22, true), (23, false), (24, false), (25, true)] (by kernel_rfl) (by kernel_rfl) (fun _ _ d _ _ h => by cases d <;> exact h) ?_; clear M; intro w' M; (iterate 5 ((refine wpSch_q ?_ rfl rfl (fun w' hR => ?_) ?_); rotate_left; (focus (go_simp; first | rfl | rw [if_neg (by simp; omega)] | rw [if_neg (by omega)] | rw [if_pos (by omega)] | (rw [if_pos (by omega)]; simp; done))); (first | simp only [Act.put, List.setIfInBounds_toArray, List.set_cons_zero, List.set_cons_succ] | skip))); (refine sch_cellO rfl _ _ rfl _ (M.far H1.out) (M.ne_far pk hgf) (fun w => ⟨by first | (simp [go_sem]; done) | (simp [go_sem]; rfl), by first | (simp [go_sem]; done) | (simp [go_sem]; rfl)⟩) ?_; (first | simp only [Act.put, List.setIfInBounds_toArray, List.set_cons_zero, List.set_cons_succ] | skip)); (iterate 4 ((refine wpSch_q ?_ rfl rfl (fun w' hR => ?_) ?_); rotate_left; (focus (go_simp; first | rfl | rw [if_neg (by simp; omega)] | rw [if_neg (by omega)] | rw [if_pos (by omega)] | (rw [if_pos (by omega)]; simp; done))); (first | simp only [Act.put, List.setIfInBounds_toArray, List.set_cons_zero, List.set_cons_succ] | skip))); (refine sch_cellO rfl _ _ rfl _ (M.far H2.out) (M.ne_far pk hgf) (fun w => ⟨by first | (simp [go_sem]; done) | (simp [go_sem]; rfl), by first | (simp [go_sem]; done) | (simp [go_sem]; rfl)⟩) ?_; (first | simp only [Act.put, List.setIfInBounds_toArray, List.set_cons_zero, List.set_cons_succ] | skip)); ((refine wpSch_q ?_ rfl rfl (fun w' hR => ?_) ?_); rotate_left; (focus (go_simp; first | rfl | rw [if_neg (by simp; omega)] | rw [if_neg (by omega)] | rw [if_pos (by omega)] | (rw [if_pos (by omega)]; simp; done))); (first | simp only [Act.put, List.setIfInBounds_toArray, List.set_cons_zero, List.set_cons_succ] | skip)); (refine wpSch_e rfl rfl (fun K hK => ?_); go_simp; refine (HW0.out _).mono ?_; rintro _ w1 ⟨gW, rfl, hX, hgz, hB⟩; refine hK _ _ (fun _ => keepO.ext hX) ?_; replace M := M.new hX (bx gW 9 ((fieldNames).map str)) hB (fun b hb => by have hb : b = gW := hb; omega); clear hgz hB; clear hK K; (first | simp only [Act.put, List.setIfInBounds_toArray, List.set_cons_zero, List.set_cons_succ] | skip)); ((refine wpSch_q ?_ rfl rfl (fun w' hR => ?_) ?_); rotate_left; (focus (go_simp; first | rfl | rw [if_neg (by simp; omega)] | rw [if_neg (by omega)] | rw [if_pos (by omega)] | (rw [if_pos (by omega)]; simp; done))); (first | simp only [Act.put, List.setIfInBounds_toArray, List.set_cons_zero, List.set_cons_succ] | skip)); (refine sch_cellO rfl _ _ rfl _ (M.at_ (cs := (fieldNames).map str) pk (2) _ HF.out) (M.ne_ow tk) (fun w => ⟨by first | (simp [go_sem]; done) | (simp [go_sem]; rfl), by first | (simp [go_sem]; done) | (simp [go_sem]; rfl)⟩) ?_; (first | simp only [Act.put, List.setIfInBounds_toArray, List.set_cons_zero, List.set_cons_succ] | skip)); (first | (refine sch_bin rfl rfl rfl (fun _ => rfl) C3.out ?_; (first | simp only [Act.put, List.setIfInBounds_toArray, List.set_cons_zero, List.set_cons_succ] | skip)) | (refine sch_bin rfl rfl rfl (fun _ => rfl) C4.out ?_; (first | simp only [Act.put, List.setIfInBounds_toArray, List.set_cons_zero, List.set_cons_succ] | skip)) | (refine sch_bin rfl rfl rfl (fun _ => rfl) C5.out ?_; (first | simp only [Act.put, List.setIfInBounds_toArray, List.set_cons_zero, List.set_cons_succ] | skip)) | (refine sch_bin rfl rfl rfl (fun _ => rfl) C6.out ?_; (first | simp only [Act.put, List.setIfInBounds_toArray, List.set_cons_zero, List.set_cons_succ] | skip)) | ((refine wpSch_q ?_ rfl rfl (fun w' hR => ?_) ?_); rotate_left; (focus (go_simp; first | rfl | rw [if_neg (by simp; omega)] | rw [if_neg (by omega)] | rw [if_pos (by omega)] | (rw [if_pos (by omega)]; simp; done))); (first | simp only [Act.put, List.setIfInBounds_toArray, List.set_cons_zero, List.set_cons_succ] | skip))); (refine wpSch_e rfl rfl (fun K hK => ?_); go_simp; refine (HW1.out _).mono ?_; rintro _ w1 ⟨gW, rfl, hX, hgz, hB⟩; refine hK _ _ (fun _ => keepO.ext hX) ?_; replace M := M.new hX (bx gW 9 ((askNames).map str)) hB (fun b hb => by have hb : b = gW := hb; omega); clear hgz hB; clear hK K; (first | simp only [Act.put, List.setIfInBounds_toArray, List.set_cons_zero, List.set_cons_succ] | skip)); ((refine wpSch_q ?_ rfl rfl (fun w' hR => ?_) ?_); rotate_left; (focus (go_simp; first | rfl | rw [if_neg (by simp; omega)] | rw [if_neg (by omega)] | rw [if_pos (by omega)] | (rw [if_pos (by omega)]; simp; done))); (first | simp only [Act.put, List.setIfInBounds_toArray, List.set_cons_zero, List.set_cons_succ] | skip)); (refine sch_cellO rfl _ _ rfl _ (M.at_ (cs := (askNames).map str) pk (q) _ HA.out) (M.ne_ow tk) (fun w => ⟨by first | (simp [go_sem]; done) | (simp [go_sem]; rfl), by first | (simp [go_sem]; done) | (simp [go_sem]; rfl)⟩) ?_; (first | simp only [Act.put, List.setIfInBounds_toArray, List.set_cons_zero, List.set_cons_succ] | skip)); (iterate 3 (first | (refine sch_bin rfl rfl rfl (fun _ => rfl) C3.out ?_; (first | simp only [Act.put, List.setIfInBounds_toArray, List.set_cons_zero, List.set_cons_succ] | skip)) | (refine sch_bin rfl rfl rfl (fun _ => rfl) C4.out ?_; (first | simp only [Act.put, List.setIfInBounds_toArray, List.set_cons_zero, List.set_cons_succ] | skip)) | (refine sch_bin rfl rfl rfl (fun _ => rfl) C5.out ?_; (first | simp only [Act.put, List.setIfInBounds_toArray, List.set_cons_zero, List.set_cons_succ] | skip)) | (refine sch_bin rfl rfl rfl (fun _ => rfl) C6.out ?_; (first | simp only [Act.put, List.setIfInBounds_toArray, List.set_cons_zero, List.set_cons_succ] | skip)) | ((refine wpSch_q ?_ rfl rfl (fun w' hR => ?_) ?_); rotate_left; (focus (go_simp; first | rfl | rw [if_neg (by simp; omega)] | rw [if_neg (by omega)] | rw [if_pos (by omega)] | (rw [if_pos (by omega)]; simp; done))); (first | simp only [Act.put, List.setIfInBounds_toArray, List.set_cons_zero, List.set_cons_succ] | skip)))); ((refine wpSch_q ?_ rfl rfl (fun w' hR => ?_) ?_); rotate_left; (focus (go_simp; first | rfl | rw [if_neg (by simp; omega)] | rw [if_neg (by omega)] | rw [if_pos (by omega)] | (rw [if_pos (by omega)]; simp; done))); (first | simp only [Act.put, List.setIfInBounds_toArray, List.set_cons_zero, List.set_cons_succ] | skip)); (refine wpSch_e rfl rfl (fun K hK => ?_); refine wp_sliceX M pieceElem _ rfl _ (by (repeat (first | exact Parts.nil | (apply Parts.cons; (first | exact CellsOf.agg _ | exact CellsOf.int _ _ | exact CellsOf.str _ | exact CellsOf.bool _ | exact CellsOf.slice _ _ _ | exact CellsOf.pointer _); rfl))); done) (by rfl) (by decide) (by decide) ?_; intro gS w' hX M'; refine hK _ _ (fun _ => keepO.ext hX) ?_; replace M := M'; clear M' hX; (try simp only [List.cons_append, List.nil_append] at M); clear hK K; (first | simp only [Act.put, List.setIfInBounds_toArray, List.set_cons_zero, List.set_cons_succ] | skip)); (refine wpSch_e rfl rfl (fun K hK => ?_); refine wp_append1F M pieceElem _ _ rfl rfl _ rfl pk (by first | with_reducible rfl | (simp; done) | (simp; omega)) (n4, 0) pk (by rfl) pV_len pV_one (by first | omega | (simp; done) | (simp; omega)) (by first | omega | (simp; done) | (simp; omega)) ?_; intro A' c' w' hF M'; refine hK _ _ (fun _ => keepO.frO hF) ?_; replace M := M'; clear M' hF hK K; (first | simp only [Act.put, List.setIfInBounds_toArray, List.set_cons_zero, List.set_cons_succ] | skip)); ((refine wpSch_q ?_ rfl rfl (fun w' hR => ?_) ?_); rotate_left; (focus (go_simp; first | rfl | rw [if_neg (by simp; omega)] | rw [if_neg (by omega)] | rw [if_pos (by omega)] | (rw [if_pos (by omega)]; simp; done))); (first | simp only [Act.put, List.setIfInBounds_toArray, List.set_cons_zero, List.set_cons_succ] | skip)); refine wpSch_nil ?_) | ((with_reducible refine wl_g ?_); first | go_big_want | go_skip | ((with_reducible refine wl_off (by kernel_rfl) ?_); (first | ((with_reducible refine fastK Tryz.prog rfl ?_); go_big_move) | (with_reducible refine fastN rfl ?_) | skip))) | ((with_reducible refine on_load ?_); (first | refine xl1 M ?_ | refine xlN M ?_); go_big_move) | ((with_reducible refine on_store ?_); (first | refine xs1 M ?_ | refine xsN M ?_); clear M; intro w' M; (try simp only [List.set_cons_zero, List.set_cons_succ] at M))) | go_values | go_skip | go_guarded | go_step | go_upon))
            have M2 := M.sub (rs := [ow 69 pV 2 _ _ (rt.reverse ++ [(n4, 0)])]) tk
            rw [← List.reverse_cons] at M2
            exact ⟨⟨k + 1, (n4, 0) :: rt, _, _, by simp, by go_num, by omega, by simp; omega, HL.out, HKI.out, HN, M2⟩, by simp [intOf]; omega⟩
          · rw [if_neg (fun h => hs h.2)] at HN HL HKI
            have hcase : decide (1 ≤ n) = false ∨ (decide (1 ≤ n) = true ∧ decide (n ≤ 7) = false) := by
              simp only [decide_eq_false_iff_not, decide_eq_true_eq]
              omega
            have hsl := itoa_len hn
            clear hs hn
            generalize Lib.itoa n = v at HN HL HKI HD hsl
            rcases hcase with q5 | ⟨q5, q6⟩
            all_goals
              have H0 : Hid (w.cell? ⟨gf, k * 5, none⟩ = some (fi 0)) := Lib.hid (HX.out 0 _ rfl)
              have H1 : Hid (w.cell? ⟨gf, k * 5 + 1, none⟩ = some (fi 2)) := Lib.hid (HX.out 1 _ rfl)
              have H2 : Hid (w.cell? ⟨gf, k * 5 + 2, none⟩ = some (fi (q : Int))) := Lib.hid (HX.out 2 _ rfl)
              have H3 : Hid (w.cell? ⟨gf, k * 5 + 3, none⟩ = some (fi n)) := Lib.hid (HX.out 3 _ rfl)
              have H4 : Hid (w.cell? ⟨gf, k * 5 + 4, none⟩ = some (str [])) := Lib.hid (HX.out 4 _ rfl)
              obtain ⟨n1, hn1⟩ : ∃ z, nm ++ [32] = z := ⟨_, rfl⟩
              rw [hn1] at HN HL HKI
              have C3 : Hid (∀ w, (binOp BinOp.add 9 (str nm) (str [32])).run Tryz.prog w = .ok (str n1) w) := Lib.hid (fun w => by rw [← hn1]; exact run_cat nm [32] (by (try simp only [List.length_cons, List.length_nil]); omega) w)
              have ln1 : n1.length ≤ 9 := by rw [← hn1, List.length_append]; (try simp only [List.length_cons, List.length_nil]); omega
              clear hn1
              obtain ⟨n2, hn2⟩ : ∃ z, n1 ++ ak = z := ⟨_, rfl⟩
              rw [hn2] at HN HL HKI
              have C4 : Hid (∀ w, (binOp BinOp.add 9 (str n1) (str ak)).run Tryz.prog w = .ok (str n2) w) := Lib.hid (fun w => by rw [← hn2]; exact run_cat n1 ak (by (try simp only [List.length_cons, List.length_nil]); omega) w)
              have ln2 : n2.length ≤ 11 := by rw [← hn2, List.length_append]; (try simp only [List.length_cons, List.length_nil]); omega
              clear hn2
              obtain ⟨n3, hn3⟩ : ∃ z, n2 ++ [32] = z := ⟨_, rfl⟩
              rw [hn3] at HN HL HKI
              have C5 : Hid (∀ w, (binOp BinOp.add 9 (str n2) (str [32])).run Tryz.prog w = .ok (str n3) w) := Lib.hid (fun w => by rw [← hn3]; exact run_cat n2 [32] (by (try simp only [List.length_cons, List.length_nil]); omega) w)
              have ln3 : n3.length ≤ 12 := by rw [← hn3, List.length_append]; (try simp only [List.length_cons, List.length_nil]); omega
              clear hn3
              obtain ⟨n4, hn4⟩ : ∃ z, n3 ++ v = z := ⟨_, rfl⟩
              rw [hn4] at HN HL HKI
              have C6 : Hid (∀ w, (binOp BinOp.add 9 (str n3) (str v)).run Tryz.prog w = .ok (str n4) w) := Lib.hid (fun w => by rw [← hn4]; exact run_cat n3 v (by (try simp only [List.length_cons, List.length_nil]); omega) w)
              have ln4 : n4.length ≤ 60 := by rw [← hn4, List.length_append]; (try simp only [List.length_cons, List.length_nil]); omega
              clear hn4
              as_aux_lemma =>
              (try dsimp only); (repeat (first | (first | ((with_reducible refine on_load ?_); refine xlC (M.far H0.out) ?_; go_big_move) | ((with_reducible refine on_load ?_); refine xlC (M.far H1.out) ?_; go_big_move) | ((with_reducible refine on_load ?_); refine xlC (M.far H2.out) ?_; go_big_move) | ((with_reducible refine on_load ?_); refine xlC (M.far H3.out) ?_; go_big_move) | ((with_reducible refine on_load ?_); refine xlC (M.far H4.out) ?_; go_big_move) | (go_at_call 23; (with_reducible refine (HD.out _).mono ?_); rintro _ w1 ⟨rfl, hX⟩; replace M := M.ext hX; clear hX; dsimp only) | ((with_reducible refine on_region 16 ?_); refine wp_region_keepO M (A) 26 [(0, true), (2, true), (3, true), (4, true), (5, true), (6, true), (11, true), (12, true), (13, true), (14, true), (15, true), (20, true), (1, false), (7, true), (8, true), (9, true), (10, false), (16, true), (17, true), (18, true), (19, true), (21, true), (22, true), (23, false), (24, false), (25, true)] (by kernel_rfl) (by kernel_rfl) (fun _ _ d _ _ h => by cases d <;> exact h) ?_; clear M; intro w' M; (iterate 5 ((refine wpSch_q ?_ rfl rfl (fun w' hR => ?_) ?_); rotate_left; (focus (go_simp; first | rfl | rw [if_neg (by simp; omega)] | rw [if_neg (by omega)] | rw [if_pos (by omega)] | (rw [if_pos (by omega)]; simp; done))); (first | simp only [Act.put, List.setIfInBounds_toArray, List.set_cons_zero, List.set_cons_succ] | skip))); (refine sch_cellO rfl _ _ rfl _ (M.far H1.out) (M.ne_far pk hgf) (fun w => ⟨by first | (simp [go_sem]; done) | (simp [go_sem]; rfl), by first | (simp [go_sem]; done) | (simp [go_sem]; rfl)⟩) ?_; (first | simp only [Act.put, List.setIfInBounds_toArray, List.set_cons_zero, List.set_cons_succ] | skip)); (iterate 4 ((refine wpSch_q ?_ rfl rfl (fun w' hR => ?_) ?_); rotate_left; (focus (go_simp; first | rfl | rw [if_neg (by simp; omega)] | rw [if_neg (by omega)] | rw [if_pos (by omega)] | (rw [if_pos (by omega)]; simp; done))); (first | simp only [Act.put, List.setIfInBounds_toArray, List.set_cons_zero, List.set_cons_succ] | skip))); (refine sch_cellO rfl _ _ rfl _ (M.far H2.out) (M.ne_far pk hgf) (fun w => ⟨by first | (simp [go_sem]; done) | (simp [go_sem]; rfl), by first | (simp [go_sem]; done) | (simp [go_sem]; rfl)⟩) ?_; (first | simp only [Act.put, List.setIfInBounds_toArray, List.set_cons_zero, List.set_cons_succ] | skip)); ((refine wpSch_q ?_ rfl rfl (fun w' hR => ?_) ?_); rotate_left; (focus (go_simp; first | rfl | rw [if_neg (by simp; omega)] | rw [if_neg (by omega)] | rw [if_pos (by omega)] | (rw [if_pos (by omega)]; simp; done))); (first | simp only [Act.put, List.setIfInBounds_toArray, List.set_cons_zero, List.set_cons_succ] | skip)); (refine wpSch_e rfl rfl (fun K hK => ?_); go_simp; refine (HW0.out _).mono ?_; rintro _ w1 ⟨gW, rfl, hX, hgz, hB⟩; refine hK _ _ (fun _ => keepO.ext hX) ?_; replace M := M.new hX (bx gW 9 ((fieldNames).map str)) hB (fun b hb => by have hb : b = gW := hb; omega); clear hgz hB; clear hK K; (first | simp only [Act.put, List.setIfInBounds_toArray, List.set_cons_zero, List.set_cons_succ] | skip)); ((refine wpSch_q ?_ rfl rfl (fun w' hR => ?_) ?_); rotate_left; (focus (go_simp; first | rfl | rw [if_neg (by simp; omega)] | rw [if_neg (by omega)] | rw [if_pos (by omega)] | (rw [if_pos (by omega)]; simp; done))); (first | simp only [Act.put, List.setIfInBounds_toArray, List.set_cons_zero, List.set_cons_succ] | skip)); (refine sch_cellO rfl _ _ rfl _ (M.at_ (cs := (fieldNames).map str) pk (2) _ HF.out) (M.ne_ow tk) (fun w => ⟨by first | (simp [go_sem]; done) | (simp [go_sem]; rfl), by first | (simp [go_sem]; done) | (simp [go_sem]; rfl)⟩) ?_; (first | simp only [Act.put, List.setIfInBounds_toArray, List.set_cons_zero, List.set_cons_succ] | skip)); (first | (refine sch_bin rfl rfl rfl (fun _ => rfl) C3.out ?_; (first | simp only [Act.put, List.setIfInBounds_toArray, List.set_cons_zero, List.set_cons_succ] | skip)) | (refine sch_bin rfl rfl rfl (fun _ => rfl) C4.out ?_; (first | simp only [Act.put, List.setIfInBounds_toArray, List.set_cons_zero, List.set_cons_succ] | skip)) | (refine sch_bin rfl rfl rfl (fun _ => rfl) C5.out ?_; (first | simp only [Act.put, List.setIfInBounds_toArray, List.set_cons_zero, List.set_cons_succ] | skip)) | (refine sch_bin rfl rfl rfl (fun _ => rfl) C6.out ?_; (first | simp only [Act.put, List.setIfInBounds_toArray, List.set_cons_zero, List.set_cons_succ] | skip)) | ((refine wpSch_q ?_ rfl rfl (fun w' hR => ?_) ?_); rotate_left; (focus (go_simp; first | rfl | rw [if_neg (by simp; omega)] | rw [if_neg (by omega)] | rw [if_pos (by omega)] | (rw [if_pos (by omega)]; simp; done))); (first | simp only [Act.put, List.setIfInBounds_toArray, List.set_cons_zero, List.set_cons_succ] | skip))); (refine wpSch_e rfl rfl (fun K hK => ?_); go_simp; refine (HW1.out _).mono ?_; rintro _ w1 ⟨gW, rfl, hX, hgz, hB⟩; refine hK _ _ (fun _ => keepO.ext hX) ?_; replace M := M.new hX (bx gW 9 ((askNames).map str)) hB (fun b hb => by have hb : b = gW := hb; omega); clear hgz hB; clear hK K; (first | simp only [Act.put, List.setIfInBounds_toArray, List.set_cons_zero, List.set_cons_succ] | skip)); ((refine wpSch_q ?_ rfl rfl (fun w' hR => ?_) ?_); rotate_left; (focus (go_simp; first | rfl | rw [if_neg (by simp; omega)] | rw [if_neg (by omega)] | rw [if_pos (by omega)] | (rw [if_pos (by omega)]; simp; done))); (first | simp only [Act.put, List.setIfInBounds_toArray, List.set_cons_zero, List.set_cons_succ] | skip)); (refine sch_cellO rfl _ _ rfl _ (M.at_ (cs := (askNames).map str) pk (q) _ HA.out) (M.ne_ow tk) (fun w => ⟨by first | (simp [go_sem]; done) | (simp [go_sem]; rfl), by first | (simp [go_sem]; done) | (simp [go_sem]; rfl)⟩) ?_; (first | simp only [Act.put, List.setIfInBounds_toArray, List.set_cons_zero, List.set_cons_succ] | skip)); (iterate 3 (first | (refine sch_bin rfl rfl rfl (fun _ => rfl) C3.out ?_; (first | simp only [Act.put, List.setIfInBounds_toArray, List.set_cons_zero, List.set_cons_succ] | skip)) | (refine sch_bin rfl rfl rfl (fun _ => rfl) C4.out ?_; (first | simp only [Act.put, List.setIfInBounds_toArray, List.set_cons_zero, List.set_cons_succ] | skip)) | (refine sch_bin rfl rfl rfl (fun _ => rfl) C5.out ?_; (first | simp only [Act.put, List.setIfInBounds_toArray, List.set_cons_zero, List.set_cons_succ] | skip)) | (refine sch_bin rfl rfl rfl (fun _ => rfl) C6.out ?_; (first | simp only [Act.put, List.setIfInBounds_toArray, List.set_cons_zero, List.set_cons_succ] | skip)) | ((refine wpSch_q ?_ rfl rfl (fun w' hR => ?_) ?_); rotate_left; (focus (go_simp; first | rfl | rw [if_neg (by simp; omega)] | rw [if_neg (by omega)] | rw [if_pos (by omega)] | (rw [if_pos (by omega)]; simp; done))); (first | simp only [Act.put, List.setIfInBounds_toArray, List.set_cons_zero, List.set_cons_succ] | skip)))); ((refine wpSch_q ?_ rfl rfl (fun w' hR => ?_) ?_); rotate_left; (focus (go_simp; first | rfl | rw [if_neg (by simp; omega)] | rw [if_neg (by omega)] | rw [if_pos (by omega)] | (rw [if_pos (by omega)]; simp; done))); (first | simp only [Act.put, List.setIfInBounds_toArray, List.set_cons_zero, List.set_cons_succ] | skip)); (refine wpSch_e rfl rfl (fun K hK => ?_); refine wp_sliceX M pieceElem _ rfl _ (by (repeat (first | exact Parts.nil | (apply Parts.cons; (first | exact CellsOf.agg _ | exact CellsOf.int _ _ | exact CellsOf.str _ | exact CellsOf.bool _ | exact CellsOf.slice _ _ _ | exact CellsOf.pointer _); rfl))); done) (by rfl) (by decide) (by decide) ?_; intro gS w' hX M'; refine hK _ _ (fun _ => keepO.ext hX) ?_; replace M := M'; clear M' hX; (try simp only [List.cons_append, List.nil_append] at M); clear hK K; (first | simp only [Act.put, List.setIfInBounds_toArray, List.set_cons_zero, List.set_cons_succ] | skip)); (refine wpSch_e rfl rfl (fun K hK => ?_); refine wp_append1F M pieceElem _ _ rfl rfl _ rfl pk (by first | with_reducible rfl | (simp; done) | (simp; omega)) (n4, 0) pk (by rfl) pV_len pV_one (by first | omega | (simp; done) | (simp; omega)) (by first | omega | (simp; done) | (simp; omega)) ?_; intro A' c' w' hF M'; refine hK _ _ (fun _ => keepO.frO hF) ?_; replace M := M'; clear M' hF hK K; (first | simp only [Act.put, List.setIfInBounds_toArray, List.set_cons_zero, List.set_cons_succ] | skip)); ((refine wpSch_q ?_ rfl rfl (fun w' hR => ?_) ?_); rotate_left; (focus (go_simp; first | rfl | rw [if_neg (by simp; omega)] | rw [if_neg (by omega)] | rw [if_pos (by omega)] | (rw [if_pos (by omega)]; simp; done))); (first | simp only [Act.put, List.setIfInBounds_toArray, List.set_cons_zero, List.set_cons_succ] | skip)); refine wpSch_nil ?_) | ((with_reducible refine wl_g ?_); first | go_big_want | go_skip | ((with_reducible refine wl_off (by kernel_rfl) ?_); (first | ((with_reducible refine fastK Tryz.prog rfl ?_); go_big_move) | (with_reducible refine fastN rfl ?_) | skip))) | ((with_reducible refine on_load ?_); (first | refine xl1 M ?_ | refine xlN M ?_); go_big_move) | ((with_reducible refine on_store ?_); (first | refine xs1 M ?_ | refine xsN M ?_); clear M; intro w' M; (try simp only [List.set_cons_zero, List.set_cons_succ] at M))) | go_values | go_skip | go_guarded | go_step | go_upon))
              have M2 := M.sub (rs := [ow 69 pV 2 _ _ (rt.reverse ++ [(n4, 0)])]) tk
              rw [← List.reverse_cons] at M2
              exact ⟨⟨k + 1, (n4, 0) :: rt, _, _, by simp, by go_num, by omega, by simp; omega, HL.out, HKI.out, HN, M2⟩, by simp [intOf]; omega⟩
        · have HF := Lib.hid (words_at (ws := fieldNames) (k := f) (by show f < 14; omega))
          have hnl := field_len f
          have q3 : ((f : Int) == 13) = false := by rw [beq_eq_false_iff_ne]; omega
          have q4 : ((f : Int) == 2) = false := by rw [beq_eq_false_iff_ne]; omega
          rw [if_neg (fun h => hf2 h.1)] at HN HL HKI
          have hsl := itoa_len hn
          clear hf2 hn
          generalize Lib.itoa n = v at HN HL HKI HD hsl
          generalize fieldNames.getD f [] = nm at HN HL HKI HF hnl
          have H0 : Hid (w.cell? ⟨gf, k * 5, none⟩ = some (fi 0)) := Lib.hid (HX.out 0 _ rfl)
          have H1 : Hid (w.cell? ⟨gf, k * 5 + 1, none⟩ = some (fi (f : Int))) := Lib.hid (HX.out 1 _ rfl)
          have H2 : Hid (w.cell? ⟨gf, k * 5 + 2, none⟩ = some (fi (q : Int))) := Lib.hid (HX.out 2 _ rfl)
          have H3 : Hid (w.cell? ⟨gf, k * 5 + 3, none⟩ = some (fi n)) := Lib.hid (HX.out 3 _ rfl)
          have H4 : Hid (w.cell? ⟨gf, k * 5 + 4, none⟩ = some (str [])) := Lib.hid (HX.out 4 _ rfl)
          obtain ⟨n1, hn1⟩ : ∃ z, nm ++ [32] = z := ⟨_, rfl⟩
          rw [hn1] at HN HL HKI
          have C3 : Hid (∀ w, (binOp BinOp.add 9 (str nm) (str [32])).run Tryz.prog w = .ok (str n1) w) := Lib.hid (fun w => by rw [← hn1]; exact run_cat nm [32] (by (try simp only [List.length_cons, List.length_nil]); omega) w)
          have ln1 : n1.length ≤ 9 := by rw [← hn1, List.length_append]; (try simp only [List.length_cons, List.length_nil]); omega
          clear hn1
          obtain ⟨n2, hn2⟩ : ∃ z, n1 ++ ak = z := ⟨_, rfl⟩
          rw [hn2] at HN HL HKI
          have C4 : Hid (∀ w, (binOp BinOp.add 9 (str n1) (str ak)).run Tryz.prog w = .ok (str n2) w) := Lib.hid (fun w => by rw [← hn2]; exact run_cat n1 ak (by (try simp only [List.length_cons, List.length_nil]); omega) w)
          have ln2 : n2.length ≤ 11 := by rw [← hn2, List.length_append]; (try simp only [List.length_cons, List.length_nil]); omega
          clear hn2
          obtain ⟨n3, hn3⟩ : ∃ z, n2 ++ [32] = z := ⟨_, rfl⟩
          rw [hn3] at HN HL HKI
          have C5 : Hid (∀ w, (binOp BinOp.add 9 (str n2) (str [32])).run Tryz.prog w = .ok (str n3) w) := Lib.hid (fun w => by rw [← hn3]; exact run_cat n2 [32] (by (try simp only [List.length_cons, List.length_nil]); omega) w)
          have ln3 : n3.length ≤ 12 := by rw [← hn3, List.length_append]; (try simp only [List.length_cons, List.length_nil]); omega
          clear hn3
          obtain ⟨n4, hn4⟩ : ∃ z, n3 ++ v = z := ⟨_, rfl⟩
          rw [hn4] at HN HL HKI
          have C6 : Hid (∀ w, (binOp BinOp.add 9 (str n3) (str v)).run Tryz.prog w = .ok (str n4) w) := Lib.hid (fun w => by rw [← hn4]; exact run_cat n3 v (by (try simp only [List.length_cons, List.length_nil]); omega) w)
          have ln4 : n4.length ≤ 60 := by rw [← hn4, List.length_append]; (try simp only [List.length_cons, List.length_nil]); omega
          clear hn4
          as_aux_lemma =>
          (try dsimp only); (repeat (first | (first | ((with_reducible refine on_load ?_); refine xlC (M.far H0.out) ?_; go_big_move) | ((with_reducible refine on_load ?_); refine xlC (M.far H1.out) ?_; go_big_move) | ((with_reducible refine on_load ?_); refine xlC (M.far H2.out) ?_; go_big_move) | ((with_reducible refine on_load ?_); refine xlC (M.far H3.out) ?_; go_big_move) | ((with_reducible refine on_load ?_); refine xlC (M.far H4.out) ?_; go_big_move) | (go_at_call 23; (with_reducible refine (HD.out _).mono ?_); rintro _ w1 ⟨rfl, hX⟩; replace M := M.ext hX; clear hX; dsimp only) | ((with_reducible refine on_region 16 ?_); refine wp_region_keepO M (A) 26 [(0, true), (2, true), (3, true), (4, true), (5, true), (6, true), (11, true), (12, true), (13, true), (14, true), (15, true), (20, true), (1, false), (7, true), (8, true), (9, true), (10, false), (16, true), (17, true), (18, true), (19, true), (21, true), (22, true), (23, false), (24, false), (25, true)] (by kernel_rfl) (by kernel_rfl) (fun _ _ d _ _ h => by cases d <;> exact h) ?_; clear M; intro w' M; (iterate 5 ((refine wpSch_q ?_ rfl rfl (fun w' hR => ?_) ?_); rotate_left; (focus (go_simp; first | rfl | rw [if_neg (by simp; omega)] | rw [if_neg (by omega)] | rw [if_pos (by omega)] | (rw [if_pos (by omega)]; simp; done))); (first | simp only [Act.put, List.setIfInBounds_toArray, List.set_cons_zero, List.set_cons_succ] | skip))); (refine sch_cellO rfl _ _ rfl _ (M.far H1.out) (M.ne_far pk hgf) (fun w => ⟨by first | (simp [go_sem]; done) | (simp [go_sem]; rfl), by first | (simp [go_sem]; done) | (simp [go_sem]; rfl)⟩) ?_; (first | simp only [Act.put, List.setIfInBounds_toArray, List.set_cons_zero, List.set_cons_succ] | skip)); (iterate 4 ((refine wpSch_q ?_ rfl rfl (fun w' hR => ?_) ?_); rotate_left; (focus (go_simp; first | rfl | rw [if_neg (by simp; omega)] | rw [if_neg (by omega)] | rw [if_pos (by omega)] | (rw [if_pos (by omega)]; simp; done))); (first | simp only [Act.put, List.setIfInBounds_toArray, List.set_cons_zero, List.set_cons_succ] | skip))); (refine sch_cellO rfl _ _ rfl _ (M.far H2.out) (M.ne_far pk hgf) (fun w => ⟨by first | (simp [go_sem]; done) | (simp [go_sem]; rfl), by first | (simp [go_sem]; done) | (simp [go_sem]; rfl)⟩) ?_; (first | simp only [Act.put, List.setIfInBounds_toArray, List.set_cons_zero, List.set_cons_succ] | skip)); ((refine wpSch_q ?_ rfl rfl (fun w' hR => ?_) ?_); rotate_left; (focus (go_simp; first | rfl | rw [if_neg (by simp; omega)] | rw [if_neg (by omega)] | rw [if_pos (by omega)] | (rw [if_pos (by omega)]; simp; done))); (first | simp only [Act.put, List.setIfInBounds_toArray, List.set_cons_zero, List.set_cons_succ] | skip)); (refine wpSch_e rfl rfl (fun K hK => ?_); go_simp; refine (HW0.out _).mono ?_; rintro _ w1 ⟨gW, rfl, hX, hgz, hB⟩; refine hK _ _ (fun _ => keepO.ext hX) ?_; replace M := M.new hX (bx gW 9 ((fieldNames).map str)) hB (fun b hb => by have hb : b = gW := hb; omega); clear hgz hB; clear hK K; (first | simp only [Act.put, List.setIfInBounds_toArray, List.set_cons_zero, List.set_cons_succ] | skip)); ((refine wpSch_q ?_ rfl rfl (fun w' hR => ?_) ?_); rotate_left; (focus (go_simp; first | rfl | rw [if_neg (by simp; omega)] | rw [if_neg (by omega)] | rw [if_pos (by omega)] | (rw [if_pos (by omega)]; simp; done))); (first | simp only [Act.put, List.setIfInBounds_toArray, List.set_cons_zero, List.set_cons_succ] | skip)); (refine sch_cellO rfl _ _ rfl _ (M.at_ (cs := (fieldNames).map str) pk (f) _ HF.out) (M.ne_ow tk) (fun w => ⟨by first | (simp [go_sem]; done) | (simp [go_sem]; rfl), by first | (simp [go_sem]; done) | (simp [go_sem]; rfl)⟩) ?_; (first | simp only [Act.put, List.setIfInBounds_toArray, List.set_cons_zero, List.set_cons_succ] | skip)); (first | (refine sch_bin rfl rfl rfl (fun _ => rfl) C3.out ?_; (first | simp only [Act.put, List.setIfInBounds_toArray, List.set_cons_zero, List.set_cons_succ] | skip)) | (refine sch_bin rfl rfl rfl (fun _ => rfl) C4.out ?_; (first | simp only [Act.put, List.setIfInBounds_toArray, List.set_cons_zero, List.set_cons_succ] | skip)) | (refine sch_bin rfl rfl rfl (fun _ => rfl) C5.out ?_; (first | simp only [Act.put, List.setIfInBounds_toArray, List.set_cons_zero, List.set_cons_succ] | skip)) | (refine sch_bin rfl rfl rfl (fun _ => rfl) C6.out ?_; (first | simp only [Act.put, List.setIfInBounds_toArray, List.set_cons_zero, List.set_cons_succ] | skip)) | ((refine wpSch_q ?_ rfl rfl (fun w' hR => ?_) ?_); rotate_left; (focus (go_simp; first | rfl | rw [if_neg (by simp; omega)] | rw [if_neg (by omega)] | rw [if_pos (by omega)] | (rw [if_pos (by omega)]; simp; done))); (first | simp only [Act.put, List.setIfInBounds_toArray, List.set_cons_zero, List.set_cons_succ] | skip))); (refine wpSch_e rfl rfl (fun K hK => ?_); go_simp; refine (HW1.out _).mono ?_; rintro _ w1 ⟨gW, rfl, hX, hgz, hB⟩; refine hK _ _ (fun _ => keepO.ext hX) ?_; replace M := M.new hX (bx gW 9 ((askNames).map str)) hB (fun b hb => by have hb : b = gW := hb; omega); clear hgz hB; clear hK K; (first | simp only [Act.put, List.setIfInBounds_toArray, List.set_cons_zero, List.set_cons_succ] | skip)); ((refine wpSch_q ?_ rfl rfl (fun w' hR => ?_) ?_); rotate_left; (focus (go_simp; first | rfl | rw [if_neg (by simp; omega)] | rw [if_neg (by omega)] | rw [if_pos (by omega)] | (rw [if_pos (by omega)]; simp; done))); (first | simp only [Act.put, List.setIfInBounds_toArray, List.set_cons_zero, List.set_cons_succ] | skip)); (refine sch_cellO rfl _ _ rfl _ (M.at_ (cs := (askNames).map str) pk (q) _ HA.out) (M.ne_ow tk) (fun w => ⟨by first | (simp [go_sem]; done) | (simp [go_sem]; rfl), by first | (simp [go_sem]; done) | (simp [go_sem]; rfl)⟩) ?_; (first | simp only [Act.put, List.setIfInBounds_toArray, List.set_cons_zero, List.set_cons_succ] | skip)); (iterate 3 (first | (refine sch_bin rfl rfl rfl (fun _ => rfl) C3.out ?_; (first | simp only [Act.put, List.setIfInBounds_toArray, List.set_cons_zero, List.set_cons_succ] | skip)) | (refine sch_bin rfl rfl rfl (fun _ => rfl) C4.out ?_; (first | simp only [Act.put, List.setIfInBounds_toArray, List.set_cons_zero, List.set_cons_succ] | skip)) | (refine sch_bin rfl rfl rfl (fun _ => rfl) C5.out ?_; (first | simp only [Act.put, List.setIfInBounds_toArray, List.set_cons_zero, List.set_cons_succ] | skip)) | (refine sch_bin rfl rfl rfl (fun _ => rfl) C6.out ?_; (first | simp only [Act.put, List.setIfInBounds_toArray, List.set_cons_zero, List.set_cons_succ] | skip)) | ((refine wpSch_q ?_ rfl rfl (fun w' hR => ?_) ?_); rotate_left; (focus (go_simp; first | rfl | rw [if_neg (by simp; omega)] | rw [if_neg (by omega)] | rw [if_pos (by omega)] | (rw [if_pos (by omega)]; simp; done))); (first | simp only [Act.put, List.setIfInBounds_toArray, List.set_cons_zero, List.set_cons_succ] | skip)))); ((refine wpSch_q ?_ rfl rfl (fun w' hR => ?_) ?_); rotate_left; (focus (go_simp; first | rfl | rw [if_neg (by simp; omega)] | rw [if_neg (by omega)] | rw [if_pos (by omega)] | (rw [if_pos (by omega)]; simp; done))); (first | simp only [Act.put, List.setIfInBounds_toArray, List.set_cons_zero, List.set_cons_succ] | skip)); (refine wpSch_e rfl rfl (fun K hK => ?_); refine wp_sliceX M pieceElem _ rfl _ (by (repeat (first | exact Parts.nil | (apply Parts.cons; (first | exact CellsOf.agg _ | exact CellsOf.int _ _ | exact CellsOf.str _ | exact CellsOf.bool _ | exact CellsOf.slice _ _ _ | exact CellsOf.pointer _); rfl))); done) (by rfl) (by decide) (by decide) ?_; intro gS w' hX M'; refine hK _ _ (fun _ => keepO.ext hX) ?_; replace M := M'; clear M' hX; (try simp only [List.cons_append, List.nil_append] at M); clear hK K; (first | simp only [Act.put, List.setIfInBounds_toArray, List.set_cons_zero, List.set_cons_succ] | skip)); (refine wpSch_e rfl rfl (fun K hK => ?_); refine wp_append1F M pieceElem _ _ rfl rfl _ rfl pk (by first | with_reducible rfl | (simp; done) | (simp; omega)) (n4, 0) pk (by rfl) pV_len pV_one (by first | omega | (simp; done) | (simp; omega)) (by first | omega | (simp; done) | (simp; omega)) ?_; intro A' c' w' hF M'; refine hK _ _ (fun _ => keepO.frO hF) ?_; replace M := M'; clear M' hF hK K; (first | simp only [Act.put, List.setIfInBounds_toArray, List.set_cons_zero, List.set_cons_succ] | skip)); ((refine wpSch_q ?_ rfl rfl (fun w' hR => ?_) ?_); rotate_left; (focus (go_simp; first | rfl | rw [if_neg (by simp; omega)] | rw [if_neg (by omega)] | rw [if_pos (by omega)] | (rw [if_pos (by omega)]; simp; done))); (first | simp only [Act.put, List.setIfInBounds_toArray, List.set_cons_zero, List.set_cons_succ] | skip)); refine wpSch_nil ?_) | ((with_reducible refine wl_g ?_); first | go_big_want | go_skip | ((with_reducible refine wl_off (by kernel_rfl) ?_); (first | ((with_reducible refine fastK Tryz.prog rfl ?_); go_big_move) | (with_reducible refine fastN rfl ?_) | skip))) | ((with_reducible refine on_load ?_); (first | refine xl1 M ?_ | refine xlN M ?_); go_big_move) | ((with_reducible refine on_store ?_); (first | refine xs1 M ?_ | refine xsN M ?_); clear M; intro w' M; (try simp only [List.set_cons_zero, List.set_cons_succ] at M))) | go_values | go_skip | go_guarded | go_step | go_upon))
          have M2 := M.sub (rs := [ow 69 pV 2 _ _ (rt.reverse ++ [(n4, 0)])]) tk
          rw [← List.reverse_cons] at M2
          exact ⟨⟨k + 1, (n4, 0) :: rt, _, _, by simp, by go_num, by omega, by simp; omega, HL.out, HKI.out, HN, M2⟩, by simp [intOf]; omega⟩
      | idt q t =>
        cases hst
        have H0 : Hid (w.cell? ⟨gf, k * 5, none⟩ = some (fi 0)) := Lib.hid (HX.out 0 _ rfl)
        have H1 : Hid (w.cell? ⟨gf, k * 5 + 1, none⟩ = some (fi 13)) := Lib.hid (HX.out 1 _ rfl)
        have H2 : Hid (w.cell? ⟨gf, k * 5 + 2, none⟩ = some (fi (q : Int))) := Lib.hid (HX.out 2 _ rfl)
        have H3 : Hid (w.cell? ⟨gf, k * 5 + 3, none⟩ = some (fi 0)) := Lib.hid (HX.out 3 _ rfl)
        have H4 : Hid (w.cell? ⟨gf, k * 5 + 4, none⟩ = some (str t)) := Lib.hid (HX.out 4 _ rfl)
        have hq6 := hxo.1
        have htl := hxo.2.1
        have HD := Lib.hid (ref_decimal 0 ⟨by decide, by decide⟩)
        have HW0 := Lib.hid ref_fields
        have HW1 := Lib.hid ref_asks
        have HF := Lib.hid (words_at (ws := fieldNames) (k := 13) (by decide))
        have hnl := field_len 13
        have HA := Lib.hid (words_at (ws := askNames) (k := q) hq6)
        have hal := ask_len q
        rw [idtT_is] at HN HL HKI
        clear hxo hkind
        have hrl : rt.length ≤ 10000 := by omega
        generalize askNames.getD q [] = ak at HN HL HKI HA hal
        generalize fieldNames.getD 13 [] = nm at HN HL HKI HF hnl
        obtain ⟨v0, hv0⟩ : ∃ z, [34] ++ t = z := ⟨_, rfl⟩
        rw [hv0] at HN HL HKI
        have C1 : Hid (∀ w, (binOp BinOp.add 9 (str [34]) (str t)).run Tryz.prog w = .ok (str v0) w) := Lib.hid (fun w => by rw [← hv0]; exact run_cat [34] t (by (try simp only [List.length_cons, List.length_nil]); omega) w)
        have lv0 : v0.length ≤ 65 := by rw [← hv0, List.length_append]; (try simp only [List.length_cons, List.length_nil]); omega
        clear hv0
        obtain ⟨v, hv⟩ : ∃ z, v0 ++ [34] = z := ⟨_, rfl⟩
        rw [hv] at HN HL HKI
        have C2 : Hid (∀ w, (binOp BinOp.add 9 (str v0) (str [34])).run Tryz.prog w = .ok (str v) w) := Lib.hid (fun w => by rw [← hv]; exact run_cat v0 [34] (by (try simp only [List.length_cons, List.length_nil]); omega) w)
        have lv : v.length ≤ 66 := by rw [← hv, List.length_append]; (try simp only [List.length_cons, List.length_nil]); omega
        clear hv
        obtain ⟨n1, hn1⟩ : ∃ z, nm ++ [32] = z := ⟨_, rfl⟩
        rw [hn1] at HN HL HKI
        have C3 : Hid (∀ w, (binOp BinOp.add 9 (str nm) (str [32])).run Tryz.prog w = .ok (str n1) w) := Lib.hid (fun w => by rw [← hn1]; exact run_cat nm [32] (by (try simp only [List.length_cons, List.length_nil]); omega) w)
        have ln1 : n1.length ≤ 9 := by rw [← hn1, List.length_append]; (try simp only [List.length_cons, List.length_nil]); omega
        clear hn1
        obtain ⟨n2, hn2⟩ : ∃ z, n1 ++ ak = z := ⟨_, rfl⟩
        rw [hn2] at HN HL HKI
        have C4 : Hid (∀ w, (binOp BinOp.add 9 (str n1) (str ak)).run Tryz.prog w = .ok (str n2) w) := Lib.hid (fun w => by rw [← hn2]; exact run_cat n1 ak (by (try simp only [List.length_cons, List.length_nil]); omega) w)
        have ln2 : n2.length ≤ 11 := by rw [← hn2, List.length_append]; (try simp only [List.length_cons, List.length_nil]); omega
        clear hn2
        obtain ⟨n3, hn3⟩ : ∃ z, n2 ++ [32] = z := ⟨_, rfl⟩
        rw [hn3] at HN HL HKI
        have C5 : Hid (∀ w, (binOp BinOp.add 9 (str n2) (str [32])).run Tryz.prog w = .ok (str n3) w) := Lib.hid (fun w => by rw [← hn3]; exact run_cat n2 [32] (by (try simp only [List.length_cons, List.length_nil]); omega) w)
        have ln3 : n3.length ≤ 12 := by rw [← hn3, List.length_append]; (try simp only [List.length_cons, List.length_nil]); omega
        clear hn3
        obtain ⟨n4, hn4⟩ : ∃ z, n3 ++ v = z := ⟨_, rfl⟩
        rw [hn4] at HN HL HKI
        have C6 : Hid (∀ w, (binOp BinOp.add 9 (str n3) (str v)).run Tryz.prog w = .ok (str n4) w) := Lib.hid (fun w => by rw [← hn4]; exact run_cat n3 v (by (try simp only [List.length_cons, List.length_nil]); omega) w)
        have ln4 : n4.length ≤ 90 := by rw [← hn4, List.length_append]; (try simp only [List.length_cons, List.length_nil]); omega
        clear hn4
        as_aux_lemma =>
        (try dsimp only); (repeat (first | (first | ((with_reducible refine on_load ?_); refine xlC (M.far H0.out) ?_; go_big_move) | ((with_reducible refine on_load ?_); refine xlC (M.far H1.out) ?_; go_big_move) | ((with_reducible refine on_load ?_); refine xlC (M.far H2.out) ?_; go_big_move) | ((with_reducible refine on_load ?_); refine xlC (M.far H3.out) ?_; go_big_move) | ((with_reducible refine on_load ?_); refine xlC (M.far H4.out) ?_; go_big_move) | (go_at_call 23; (with_reducible refine (HD.out _).mono ?_); rintro _ w1 ⟨rfl, hX⟩; replace M := M.ext hX; clear hX; dsimp only) | ((with_reducible refine on_bin ?_); (first | refine wp_bin rfl rfl rfl rfl (C1.out _) ?_ | refine wp_bin rfl rfl rfl rfl (C2.out _) ?_); (first | ((with_reducible refine fastK Tryz.prog rfl ?_); go_big_move) | (with_reducible refine fastN rfl ?_) | skip)) | ((with_reducible refine on_region 16 ?_); refine wp_region_keepO M (A) 26 [(0, true), (2, true), (3, true), (4, true), (5, true), (6, true), (11, true), (12, true), (13, true), (14, true), (15, true), (20, true), (1, false), (7, true), (8, true), (9, true), (10, false), (16, true), (17, true), (18, true), (19, true), (21, true), (22, true), (23, false), (24, false), (25, true)] (by kernel_rfl) (by kernel_rfl) (fun _ _ d _ _ h => by cases d <;> exact h) ?_; clear M; intro w' M; (iterate 5 ((refine wpSch_q ?_ rfl rfl (fun w' hR => ?_) ?_); rotate_left; (focus (go_simp; first | rfl | rw [if_neg (by simp; omega)] | rw [if_neg (by omega)] | rw [if_pos (by omega)] | (rw [if_pos (by omega)]; simp; done))); (first | simp only [Act.put, List.setIfInBounds_toArray, List.set_cons_zero, List.set_cons_succ] | skip))); (refine sch_cellO rfl _ _ rfl _ (M.far H1.out) (M.ne_far pk hgf) (fun w => ⟨by first | (simp [go_sem]; done) | (simp [go_sem]; rfl), by first | (simp [go_sem]; done) | (simp [go_sem]; rfl)⟩) ?_; (first | simp only [Act.put, List.setIfInBounds_toArray, List.set_cons_zero, List.set_cons_succ] | skip)); (iterate 4 ((refine wpSch_q ?_ rfl rfl (fun w' hR => ?_) ?_); rotate_left; (focus (go_simp; first | rfl | rw [if_neg (by simp; omega)] | rw [if_neg (by omega)] | rw [if_pos (by omega)] | (rw [if_pos (by omega)]; simp; done))); (first | simp only [Act.put, List.setIfInBounds_toArray, List.set_cons_zero, List.set_cons_succ] | skip))); (refine sch_cellO rfl _ _ rfl _ (M.far H2.out) (M.ne_far pk hgf) (fun w => ⟨by first | (simp [go_sem]; done) | (simp [go_sem]; rfl), by first | (simp [go_sem]; done) | (simp [go_sem]; rfl)⟩) ?_; (first | simp only [Act.put, List.setIfInBounds_toArray, List.set_cons_zero, List.set_cons_succ] | skip)); ((refine wpSch_q ?_ rfl rfl (fun w' hR => ?_) ?_); rotate_left; (focus (go_simp; first | rfl | rw [if_neg (by simp; omega)] | rw [if_neg (by omega)] | rw [if_pos (by omega)] | (rw [if_pos (by omega)]; simp; done))); (first | simp only [Act.put, List.setIfInBounds_toArray, List.set_cons_zero, List.set_cons_succ] | skip)); (refine wpSch_e rfl rfl (fun K hK => ?_); go_simp; refine (HW0.out _).mono ?_; rintro _ w1 ⟨gW, rfl, hX, hgz, hB⟩; refine hK _ _ (fun _ => keepO.ext hX) ?_; replace M := M.new hX (bx gW 9 ((fieldNames).map str)) hB (fun b hb => by have hb : b = gW := hb; omega); clear hgz hB; clear hK K; (first | simp only [Act.put, List.setIfInBounds_toArray, List.set_cons_zero, List.set_cons_succ] | skip)); ((refine wpSch_q ?_ rfl rfl (fun w' hR => ?_) ?_); rotate_left; (focus (go_simp; first | rfl | rw [if_neg (by simp; omega)] | rw [if_neg (by omega)] | rw [if_pos (by omega)] | (rw [if_pos (by omega)]; simp; done))); (first | simp only [Act.put, List.setIfInBounds_toArray, List.set_cons_zero, List.set_cons_succ] | skip)); (refine sch_cellO rfl _ _ rfl _ (M.at_ (cs := (fieldNames).map str) pk (13) _ HF.out) (M.ne_ow tk) (fun w => ⟨by first | (simp [go_sem]; done) | (simp [go_sem]; rfl), by first | (simp [go_sem]; done) | (simp [go_sem]; rfl)⟩) ?_; (first | simp only [Act.put, List.setIfInBounds_toArray, List.set_cons_zero, List.set_cons_succ] | skip)); (first | (refine sch_bin rfl rfl rfl (fun _ => rfl) C3.out ?_; (first | simp only [Act.put, List.setIfInBounds_toArray, List.set_cons_zero, List.set_cons_succ] | skip)) | (refine sch_bin rfl rfl rfl (fun _ => rfl) C4.out ?_; (first | simp only [Act.put, List.setIfInBounds_toArray, List.set_cons_zero, List.set_cons_succ] | skip)) | (refine sch_bin rfl rfl rfl (fun _ => rfl) C5.out ?_; (first | simp only [Act.put, List.setIfInBounds_toArray, List.set_cons_zero, List.set_cons_succ] | skip)) | (refine sch_bin rfl rfl rfl (fun _ => rfl) C6.out ?_; (first | simp only [Act.put, List.setIfInBounds_toArray, List.set_cons_zero, List.set_cons_succ] | skip)) | ((refine wpSch_q ?_ rfl rfl (fun w' hR => ?_) ?_); rotate_left; (focus (go_simp; first | rfl | rw [if_neg (by simp; omega)] | rw [if_neg (by omega)] | rw [if_pos (by omega)] | (rw [if_pos (by omega)]; simp; done))); (first | simp only [Act.put, List.setIfInBounds_toArray, List.set_cons_zero, List.set_cons_succ] | skip))); (refine wpSch_e rfl rfl (fun K hK => ?_); go_simp; refine (HW1.out _).mono ?_; rintro _ w1 ⟨gW, rfl, hX, hgz, hB⟩; refine hK _ _ (fun _ => keepO.ext hX) ?_; replace M := M.new hX (bx gW 9 ((askNames).map str)) hB (fun b hb => by have hb : b = gW := hb; omega); clear hgz hB; clear hK K; (first | simp only [Act.put, List.setIfInBounds_toArray, List.set_cons_zero, List.set_cons_succ] | skip)); ((refine wpSch_q ?_ rfl rfl (fun w' hR => ?_) ?_); rotate_left; (focus (go_simp; first | rfl | rw [if_neg (by simp; omega)] | rw [if_neg (by omega)] | rw [if_pos (by omega)] | (rw [if_pos (by omega)]; simp; done))); (first | simp only [Act.put, List.setIfInBounds_toArray, List.set_cons_zero, List.set_cons_succ] | skip)); (refine sch_cellO rfl _ _ rfl _ (M.at_ (cs := (askNames).map str) pk (q) _ HA.out) (M.ne_ow tk) (fun w => ⟨by first | (simp [go_sem]; done) | (simp [go_sem]; rfl), by first | (simp [go_sem]; done) | (simp [go_sem]; rfl)⟩) ?_; (first | simp only [Act.put, List.setIfInBounds_toArray, List.set_cons_zero, List.set_cons_succ] | skip)); (iterate 3 (first | (refine sch_bin rfl rfl rfl (fun _ => rfl) C3.out ?_; (first | simp only [Act.put, List.setIfInBounds_toArray, List.set_cons_zero, List.set_cons_succ] | skip)) | (refine sch_bin rfl rfl rfl (fun _ => rfl) C4.out ?_; (first | simp only [Act.put, List.setIfInBounds_toArray, List.set_cons_zero, List.set_cons_succ] | skip)) | (refine sch_bin rfl rfl rfl (fun _ => rfl) C5.out ?_; (first | simp only [Act.put, List.setIfInBounds_toArray, List.set_cons_zero, List.set_cons_succ] | skip)) | (refine sch_bin rfl rfl rfl (fun _ => rfl) C6.out ?_; (first | simp only [Act.put, List.setIfInBounds_toArray, List.set_cons_zero, List.set_cons_succ] | skip)) | ((refine wpSch_q ?_ rfl rfl (fun w' hR => ?_) ?_); rotate_left; (focus (go_simp; first | rfl | rw [if_neg (by simp; omega)] | rw [if_neg (by omega)] | rw [if_pos (by omega)] | (rw [if_pos (by omega)]; simp; done))); (first | simp only [Act.put, List.setIfInBounds_toArray, List.set_cons_zero, List.set_cons_succ] | skip)))); ((refine wpSch_q ?_ rfl rfl (fun w' hR => ?_) ?_); rotate_left; (focus (go_simp; first | rfl | rw [if_neg (by simp; omega)] | rw [if_neg (by omega)] | rw [if_pos (by omega)] | (rw [if_pos (by omega)]; simp; done))); (first | simp only [Act.put, List.setIfInBounds_toArray, List.set_cons_zero, List.set_cons_succ] | skip)); (refine wpSch_e rfl rfl (fun K hK => ?_); refine wp_sliceX M pieceElem _ rfl _ (by (repeat (first | exact Parts.nil | (apply Parts.cons; (first | exact CellsOf.agg _ | exact CellsOf.int _ _ | exact CellsOf.str _ | exact CellsOf.bool _ | exact CellsOf.slice _ _ _ | exact CellsOf.pointer _); rfl))); done) (by rfl) (by decide) (by decide) ?_; intro gS w' hX M'; refine hK _ _ (fun _ => keepO.ext hX) ?_; replace M := M'; clear M' hX; (try simp only [List.cons_append, List.nil_append] at M); clear hK K; (first | simp only [Act.put, List.setIfInBounds_toArray, List.set_cons_zero, List.set_cons_succ] | skip)); (refine wpSch_e rfl rfl (fun K hK => ?_); refine wp_append1F M pieceElem _ _ rfl rfl _ rfl pk (by first | with_reducible rfl | (simp; done) | (simp; omega)) (n4, 0) pk (by rfl) pV_len pV_one (by first | omega | (simp; done) | (simp; omega)) (by first | omega | (simp; done) | (simp; omega)) ?_; intro A' c' w' hF M'; refine hK _ _ (fun _ => keepO.frO hF) ?_; replace M := M'; clear M' hF hK K; (first | simp only [Act.put, List.setIfInBounds_toArray, List.set_cons_zero, List.set_cons_succ] | skip)); ((refine wpSch_q ?_ rfl rfl (fun w' hR => ?_) ?_); rotate_left; (focus (go_simp; first | rfl | rw [if_neg (by simp; omega)] | rw [if_neg (by omega)] | rw [if_pos (by omega)] | (rw [if_pos (by omega)]; simp; done))); (first | simp only [Act.put, List.setIfInBounds_toArray, List.set_cons_zero, List.set_cons_succ] | skip)); refine wpSch_nil ?_) | ((with_reducible refine wl_g ?_); first | go_big_want | go_skip | ((with_reducible refine wl_off (by kernel_rfl) ?_); (first | ((with_reducible refine fastK Tryz.prog rfl ?_); go_big_move) | (with_reducible refine fastN rfl ?_) | skip))) | ((with_reducible refine on_load ?_); (first | refine xl1 M ?_ | refine xlN M ?_); go_big_move) | ((with_reducible refine on_store ?_); (first | refine xs1 M ?_ | refine xsN M ?_); clear M; intro w' M; (try simp only [List.set_cons_zero, List.set_cons_succ] at M))) | go_values | go_skip | go_guarded | go_step | go_upon))
        have M2 := M.sub (rs := [ow 69 pV 2 _ _ (rt.reverse ++ [(n4, 0)])]) tk
        rw [← List.reverse_cons] at M2
        exact ⟨⟨k + 1, (n4, 0) :: rt, _, _, by simp, by go_num, by omega, by simp; omega, HL.out, HKI.out, HN, M2⟩, by simp [intOf]; omega⟩
      | not =>
        match rt, hst with
        | (t, kd) :: r, hst =>
        cases hst
        have H0 : Hid (w.cell? ⟨gf, k * 5, none⟩ = some (fi 1)) := Lib.hid (HX.out 0 _ rfl)
        have hkd : KT (t, kd) := hkind _ (List.mem_cons_self ..)
        have hs2 : t.length + sumT r ≤ 1000000 := hs1
        obtain ⟨gS, rfl⟩ := M.some_of Pick.head (by simp)
        have HV : Hid ((((t, kd) :: r).reverse)[r.length]? = some (t, kd)) := Lib.hid (by rw [List.reverse_cons]; simp)
        have HB := Lib.hid (fun w => ref_bracketed t (kd : Int) (by omega) w)
        simp only [List.length_cons] at hrt
        have hw1 : IntKind.i64.wrap ((r.length : Int) + 1 - 1) = (r.length : Int) := by rw [show (r.length : Int) + 1 - 1 = r.length by omega]; exact IntWalk.i64_in _ (by omega)
        have hbl := brk_len t
        have hcase : (((kd : Int) == 2) = false ∧ ((kd : Int) == 3) = false ∧ (if (t, kd).2 = 2 ∨ (t, kd).2 = 3 then brk (t, kd).1 else (t, kd).1) = t) ∨ (((kd : Int) == 2) = true ∧ (if (t, kd).2 = 2 ∨ (t, kd).2 = 3 then brk (t, kd).1 else (t, kd).1) = brk t) ∨ (((kd : Int) == 2) = false ∧ ((kd : Int) == 3) = true ∧ (if (t, kd).2 = 2 ∨ (t, kd).2 = 3 then brk (t, kd).1 else (t, kd).1) = brk t) := by
          rcases hkd with h | h | h <;> (have h : kd = _ := h; subst h; simp)
        clear hkd hkind hxo
        rcases hcase with ⟨q2, q3, e⟩ | ⟨q2, e⟩ | ⟨q2, q3, e⟩
        · rw [e] at HN HL HKI
          clear e
          have HN : Hid (Filt.runT Filt.numT Filt.idtT [] (xs.take (k + 1)) = some (([110, 111, 116, 32] ++ t, 0) :: r)) := HN
          have HL : Hid (sumT (([110, 111, 116, 32] ++ t, 0) :: r) ≤ 100 * (k + 1)) := HL
          have HKI : Hid (∀ p ∈ ([110, 111, 116, 32] ++ t, 0) :: r, KT p) := HKI
          obtain ⟨z1, hz1⟩ : ∃ z, [110, 111, 116, 32] ++ t = z := ⟨_, rfl⟩
          rw [hz1] at HN HL HKI
          have C1 : Hid (∀ w, (binOp BinOp.add 9 (str [110, 111, 116, 32]) (str t)).run Tryz.prog w = .ok (str z1) w) := Lib.hid (fun w => by rw [← hz1]; exact run_cat [110, 111, 116, 32] t (by (try simp only [List.length_cons, List.length_nil]); omega) w)
          have lz1 : z1.length ≤ 1000006 := by rw [← hz1, List.length_append]; (try simp only [List.length_cons, List.length_nil]); omega
          clear hz1
          as_aux_lemma =>
          (try dsimp only); (repeat (first | (first | ((with_reducible refine on_load ?_); refine xlC (M.far H0.out) ?_; go_big_move) | ((with_reducible refine on_load ?_); refine xlC (M.cellO (k := r.length) (x := (t, kd)) (j := 0) pV_len Pick.head HV.out rfl) ?_; go_big_move) | ((with_reducible refine on_load ?_); refine xlC (M.cellO (k := r.length) (x := (t, kd)) (j := 1) pV_len Pick.head HV.out rfl) ?_; go_big_move) | ((with_reducible refine on_load ?_); refine xlR (fun j z (hz : [str t, fi (kd : Int)][j]? = some z) => M.cellO (k := r.length) (x := (t, kd)) (j := j) pV_len Pick.head HV.out hz) ?_; go_big_move) | (go_at_call 27; (first | (with_reducible refine (HB.out _).mono ?_)); rintro _ w1 ⟨rfl, hX⟩; replace M := M.ext hX; clear hX; dsimp only) | ((with_reducible refine on_bin ?_); (first | refine wp_bin rfl rfl rfl rfl (C1.out _) ?_); (first | ((with_reducible refine fastK Tryz.prog rfl ?_); go_big_move) | (with_reducible refine fastN rfl ?_) | skip)) | ((with_reducible refine on_store ?_); refine wp_storeO M (k := r.length) pV_len pk (z1, 0) (by first | (simp; done) | omega | (simp; omega)) _ _ _ rfl (i := r.length * 2) (by first | (simp; done) | omega | (simp; omega)) rfl rfl (by first | (simp [go_sem]; done) | (simp [go_sem]; rfl)) (pV_one _) ?_; clear M; intro w' hF M; clear hF; (first | ((with_reducible refine fastK Tryz.prog rfl ?_); go_big_move) | (with_reducible refine fastN rfl ?_) | skip)) | ((with_reducible refine wl_g ?_); first | go_big_want | go_skip | ((with_reducible refine wl_off (by kernel_rfl) ?_); (first | ((with_reducible refine fastK Tryz.prog rfl ?_); go_big_move) | (with_reducible refine fastN rfl ?_) | skip))) | ((with_reducible refine on_load ?_); (first | refine xl1 M ?_ | refine xlN M ?_); go_big_move) | ((with_reducible refine on_store ?_); (first | refine xs1 M ?_ | refine xsN M ?_); clear M; intro w' M; (try simp only [List.set_cons_zero, List.set_cons_succ] at M))) | go_values | go_skip | go_guarded | go_step | go_upon))
          have M2 := M
          rw [set_rev] at M2
          exact ⟨⟨k + 1, (z1, 0) :: r, _, _, rfl, by go_num, by omega, by simp only [List.length_cons]; omega, HL.out, HKI.out, HN, M2⟩, by simp [intOf]; omega⟩
        · rw [e] at HN HL HKI
          clear e
          generalize brk t = bt at HN HL HKI HB hbl
          have HN : Hid (Filt.runT Filt.numT Filt.idtT [] (xs.take (k + 1)) = some (([110, 111, 116, 32] ++ bt, 0) :: r)) := HN
          have HL : Hid (sumT (([110, 111, 116, 32] ++ bt, 0) :: r) ≤ 100 * (k + 1)) := HL
          have HKI : Hid (∀ p ∈ ([110, 111, 116, 32] ++ bt, 0) :: r, KT p) := HKI
          obtain ⟨z1, hz1⟩ : ∃ z, [110, 111, 116, 32] ++ bt = z := ⟨_, rfl⟩
          rw [hz1] at HN HL HKI
          have C1 : Hid (∀ w, (binOp BinOp.add 9 (str [110, 111, 116, 32]) (str bt)).run Tryz.prog w = .ok (str z1) w) := Lib.hid (fun w => by rw [← hz1]; exact run_cat [110, 111, 116, 32] bt (by (try simp only [List.length_cons, List.length_nil]); omega) w)
          have lz1 : z1.length ≤ 1000006 := by rw [← hz1, List.length_append]; (try simp only [List.length_cons, List.length_nil]); omega
          clear hz1
          as_aux_lemma =>
          (try dsimp only); (repeat (first | (first | ((with_reducible refine on_load ?_); refine xlC (M.far H0.out) ?_; go_big_move) | ((with_reducible refine on_load ?_); refine xlC (M.cellO (k := r.length) (x := (t, kd)) (j := 0) pV_len Pick.head HV.out rfl) ?_; go_big_move) | ((with_reducible refine on_load ?_); refine xlC (M.cellO (k := r.length) (x := (t, kd)) (j := 1) pV_len Pick.head HV.out rfl) ?_; go_big_move) | ((with_reducible refine on_load ?_); refine xlR (fun j z (hz : [str t, fi (kd : Int)][j]? = some z) => M.cellO (k := r.length) (x := (t, kd)) (j := j) pV_len Pick.head HV.out hz) ?_; go_big_move) | (go_at_call 27; (first | (with_reducible refine (HB.out _).mono ?_)); rintro _ w1 ⟨rfl, hX⟩; replace M := M.ext hX; clear hX; dsimp only) | ((with_reducible refine on_bin ?_); (first | refine wp_bin rfl rfl rfl rfl (C1.out _) ?_); (first | ((with_reducible refine fastK Tryz.prog rfl ?_); go_big_move) | (with_reducible refine fastN rfl ?_) | skip)) | ((with_reducible refine on_store ?_); refine wp_storeO M (k := r.length) pV_len pk (z1, 0) (by first | (simp; done) | omega | (simp; omega)) _ _ _ rfl (i := r.length * 2) (by first | (simp; done) | omega | (simp; omega)) rfl rfl (by first | (simp [go_sem]; done) | (simp [go_sem]; rfl)) (pV_one _) ?_; clear M; intro w' hF M; clear hF; (first | ((with_reducible refine fastK Tryz.prog rfl ?_); go_big_move) | (with_reducible refine fastN rfl ?_) | skip)) | ((with_reducible refine wl_g ?_); first | go_big_want | go_skip | ((with_reducible refine wl_off (by kernel_rfl) ?_); (first | ((with_reducible refine fastK Tryz.prog rfl ?_); go_big_move) | (with_reducible refine fastN rfl ?_) | skip))) | ((with_reducible refine on_load ?_); (first | refine xl1 M ?_ | refine xlN M ?_); go_big_move) | ((with_reducible refine on_store ?_); (first | refine xs1 M ?_ | refine xsN M ?_); clear M; intro w' M; (try simp only [List.set_cons_zero, List.set_cons_succ] at M))) | go_values | go_skip | go_guarded | go_step | go_upon))
          have M2 := M
          rw [set_rev] at M2
          exact ⟨⟨k + 1, (z1, 0) :: r, _, _, rfl, by go_num, by omega, by simp only [List.length_cons]; omega, HL.out, HKI.out, HN, M2⟩, by simp [intOf]; omega⟩
        · rw [e] at HN HL HKI
          clear e
          generalize brk t = bt at HN HL HKI HB hbl
          have HN : Hid (Filt.runT Filt.numT Filt.idtT [] (xs.take (k + 1)) = some (([110, 111, 116, 32] ++ bt, 0) :: r)) := HN
          have HL : Hid (sumT (([110, 111, 116, 32] ++ bt, 0) :: r) ≤ 100 * (k + 1)) := HL
          have HKI : Hid (∀ p ∈ ([110, 111, 116, 32] ++ bt, 0) :: r, KT p) := HKI
          obtain ⟨z1, hz1⟩ : ∃ z, [110, 111, 116, 32] ++ bt = z := ⟨_, rfl⟩
          rw [hz1] at HN HL HKI
          have C1 : Hid (∀ w, (binOp BinOp.add 9 (str [110, 111, 116, 32]) (str bt)).run Tryz.prog w = .ok (str z1) w) := Lib.hid (fun w => by rw [← hz1]; exact run_cat [110, 111, 116, 32] bt (by (try simp only [List.length_cons, List.length_nil]); omega) w)
          have lz1 : z1.length ≤ 1000006 := by rw [← hz1, List.length_append]; (try simp only [List.length_cons, List.length_nil]); omega
          clear hz1
          as_aux_lemma =>
          (try dsimp only); (repeat (first | (first | ((with_reducible refine on_load ?_); refine xlC (M.far H0.out) ?_; go_big_move) | ((with_reducible refine on_load ?_); refine xlC (M.cellO (k := r.length) (x := (t, kd)) (j := 0) pV_len Pick.head HV.out rfl) ?_; go_big_move) | ((with_reducible refine on_load ?_); refine xlC (M.cellO (k := r.length) (x := (t, kd)) (j := 1) pV_len Pick.head HV.out rfl) ?_; go_big_move) | ((with_reducible refine on_load ?_); refine xlR (fun j z (hz : [str t, fi (kd : Int)][j]? = some z) => M.cellO (k := r.length) (x := (t, kd)) (j := j) pV_len Pick.head HV.out hz) ?_; go_big_move) | (go_at_call 27; (first | (with_reducible refine (HB.out _).mono ?_)); rintro _ w1 ⟨rfl, hX⟩; replace M := M.ext hX; clear hX; dsimp only) | ((with_reducible refine on_bin ?_); (first | refine wp_bin rfl rfl rfl rfl (C1.out _) ?_); (first | ((with_reducible refine fastK Tryz.prog rfl ?_); go_big_move) | (with_reducible refine fastN rfl ?_) | skip)) | ((with_reducible refine on_store ?_); refine wp_storeO M (k := r.length) pV_len pk (z1, 0) (by first | (simp; done) | omega | (simp; omega)) _ _ _ rfl (i := r.length * 2) (by first | (simp; done) | omega | (simp; omega)) rfl rfl (by first | (simp [go_sem]; done) | (simp [go_sem]; rfl)) (pV_one _) ?_; clear M; intro w' hF M; clear hF; (first | ((with_reducible refine fastK Tryz.prog rfl ?_); go_big_move) | (with_reducible refine fastN rfl ?_) | skip)) | ((with_reducible refine wl_g ?_); first | go_big_want | go_skip | ((with_reducible refine wl_off (by kernel_rfl) ?_); (first | ((with_reducible refine fastK Tryz.prog rfl ?_); go_big_move) | (with_reducible refine fastN rfl ?_) | skip))) | ((with_reducible refine on_load ?_); (first | refine xl1 M ?_ | refine xlN M ?_); go_big_move) | ((with_reducible refine on_store ?_); (first | refine xs1 M ?_ | refine xsN M ?_); clear M; intro w' M; (try simp only [List.set_cons_zero, List.set_cons_succ] at M))) | go_values | go_skip | go_guarded | go_step | go_upon))
          have M2 := M
          rw [set_rev] at M2
          exact ⟨⟨k + 1, (z1, 0) :: r, _, _, rfl, by go_num, by omega, by simp only [List.length_cons]; omega, HL.out, HKI.out, HN, M2⟩, by simp [intOf]; omega⟩
      | all =>
        match rt, hst with
        | (v, kb) :: (u, ka) :: r, hst =>
        cases hst
        have H0 : Hid (w.cell? ⟨gf, k * 5, none⟩ = some (fi 2)) := Lib.hid (HX.out 0 _ rfl)
        have hs2 : v.length + (u.length + sumT r) ≤ 1000000 := hs1
        obtain ⟨gS, rfl⟩ := M.some_of Pick.head (by simp)
        have HU : Hid ((((v, kb) :: (u, ka) :: r).reverse)[r.length]? = some (u, ka)) := Lib.hid (by rw [List.reverse_cons, List.reverse_cons]; simp)
        have HV : Hid ((((v, kb) :: (u, ka) :: r).reverse)[r.length + 1]? = some (v, kb)) := Lib.hid (by rw [List.reverse_cons, List.reverse_cons]; simp)
        have hcap := M.cap Pick.head
        simp only [List.length_reverse, List.length_cons] at hcap
        have hcap2 : (r.length : Int) + 1 ≤ (c : Int) := by omega
        have hcap3 : ¬ (c : Int) < (r.length : Int) + 1 := by omega
        simp only [List.length_cons] at hrt
        have hw1 : IntKind.i64.wrap ((r.length : Int) + 1 + 1 - 1) = (r.length : Int) + 1 := by rw [show (r.length : Int) + 1 + 1 - 1 = r.length + 1 by omega]; exact IntWalk.i64_in _ (by omega)
        have hw2 : IntKind.i64.wrap ((r.length : Int) + 1 + 1 - 2) = (r.length : Int) := by rw [show (r.length : Int) + 1 + 1 - 2 = r.length by omega]; exact IntWalk.i64_in _ (by omega)
        clear hkind hxo
        have hbu := brk_len u
        have hbv := brk_len v
        have HBU := Lib.hid (fun w => ref_bracketed u (ka : Int) (by omega) w)
        have HBV := Lib.hid (fun w => ref_bracketed v (kb : Int) (by omega) w)
        have hca : (((ka : Int) == 3) = false ∧ (if (u, ka).2 = 3 then brk (u, ka).1 else (u, ka).1) = u) ∨ (((ka : Int) == 3) = true ∧ (if (u, ka).2 = 3 then brk (u, ka).1 else (u, ka).1) = brk u) := by
          by_cases h : ka = 3
          · subst h; exact .inr ⟨rfl, rfl⟩
          · exact .inl ⟨by rw [beq_eq_false_iff_ne]; omega, if_neg h⟩
        have hcb : (((kb : Int) == 3) = false ∧ (if (v, kb).2 = 3 then brk (v, kb).1 else (v, kb).1) = v) ∨ (((kb : Int) == 3) = true ∧ (if (v, kb).2 = 3 then brk (v, kb).1 else (v, kb).1) = brk v) := by
          by_cases h : kb = 3
          · subst h; exact .inr ⟨rfl, rfl⟩
          · exact .inl ⟨by rw [beq_eq_false_iff_ne]; omega, if_neg h⟩
        rcases hca with ⟨q2, ea⟩ | ⟨q2, ea⟩
        · rw [ea] at HN HL HKI
          clear ea
          rcases hcb with ⟨q3, eb⟩ | ⟨q3, eb⟩
          · rw [eb] at HN HL HKI
            clear eb
            have HN : Hid (Filt.runT Filt.numT Filt.idtT [] (xs.take (k + 1)) = some ((u ++ [32, 97, 110, 100, 32] ++ v, 2) :: r)) := HN
            have HL : Hid (sumT ((u ++ [32, 97, 110, 100, 32] ++ v, 2) :: r) ≤ 100 * (k + 1)) := HL
            have HKI : Hid (∀ p ∈ (u ++ [32, 97, 110, 100, 32] ++ v, 2) :: r, KT p) := HKI
            obtain ⟨z1, hz1⟩ : ∃ z, u ++ [32, 97, 110, 100, 32] = z := ⟨_, rfl⟩
            rw [hz1] at HN HL HKI
            have C1 : Hid (∀ w, (binOp BinOp.add 9 (str u) (str [32, 97, 110, 100, 32])).run Tryz.prog w = .ok (str z1) w) := Lib.hid (fun w => by rw [← hz1]; exact run_cat u [32, 97, 110, 100, 32] (by (try simp only [List.length_cons, List.length_nil]); omega) w)
            have lz1 : z1.length ≤ 1000007 := by rw [← hz1, List.length_append]; (try simp only [List.length_cons, List.length_nil]); omega
            clear hz1
            obtain ⟨z2, hz2⟩ : ∃ z, z1 ++ v = z := ⟨_, rfl⟩
            rw [hz2] at HN HL HKI
            have C2 : Hid (∀ w, (binOp BinOp.add 9 (str z1) (str v)).run Tryz.prog w = .ok (str z2) w) := Lib.hid (fun w => by rw [← hz2]; exact run_cat z1 v (by (try simp only [List.length_cons, List.length_nil]); omega) w)
            have lz2 : z2.length ≤ 2000010 := by rw [← hz2, List.length_append]; (try simp only [List.length_cons, List.length_nil]); omega
            clear hz2
            as_aux_lemma =>
            (try dsimp only); (repeat (first | (first | ((with_reducible refine on_load ?_); refine xlC (M.far H0.out) ?_; go_big_move) | ((with_reducible refine on_load ?_); refine xlC (M.cellO (k := r.length) (x := (u, ka)) (j := 0) pV_len Pick.head HU.out rfl) ?_; go_big_move) | ((with_reducible refine on_load ?_); refine xlC (M.cellO (k := r.length) (x := (u, ka)) (j := 1) pV_len Pick.head HU.out rfl) ?_; go_big_move) | ((with_reducible refine on_load ?_); refine xlC (M.cellO (k := r.length + 1) (x := (v, kb)) (j := 0) pV_len Pick.head HV.out rfl) ?_; go_big_move) | ((with_reducible refine on_load ?_); refine xlC (M.cellO (k := r.length + 1) (x := (v, kb)) (j := 1) pV_len Pick.head HV.out rfl) ?_; go_big_move) | ((with_reducible refine on_load ?_); refine xlR (fun j z (hz : [str u, fi (ka : Int)][j]? = some z) => M.cellO (k := r.length) (x := (u, ka)) (j := j) pV_len Pick.head HU.out hz) ?_; go_big_move) | ((with_reducible refine on_load ?_); refine xlR (fun j z (hz : [str v, fi (kb : Int)][j]? = some z) => M.cellO (k := r.length + 1) (x := (v, kb)) (j := j) pV_len Pick.head HV.out hz) ?_; go_big_move) | (go_at_call 27; (first | (with_reducible refine (HBU.out _).mono ?_) | (with_reducible refine (HBV.out _).mono ?_)); rintro _ w1 ⟨rfl, hX⟩; replace M := M.ext hX; clear hX; dsimp only) | ((with_reducible refine on_bin ?_); (first | refine wp_bin rfl rfl rfl rfl (C1.out _) ?_ | refine wp_bin rfl rfl rfl rfl (C2.out _) ?_); (first | ((with_reducible refine fastK Tryz.prog rfl ?_); go_big_move) | (with_reducible refine fastN rfl ?_) | skip)) | ((with_reducible refine on_store ?_); refine wp_storeO M (k := r.length) pV_len pk (z2, 2) (by first | (simp; done) | omega | (simp; omega)) _ _ _ rfl (i := r.length * 2) (by first | (simp; done) | omega | (simp; omega)) rfl rfl (by first | (simp [go_sem]; done) | (simp [go_sem]; rfl)) (pV_one _) ?_; clear M; intro w' hF M; clear hF; (first | ((with_reducible refine fastK Tryz.prog rfl ?_); go_big_move) | (with_reducible refine fastN rfl ?_) | skip)) | ((with_reducible refine wl_g ?_); first | go_big_want | go_skip | ((with_reducible refine wl_off (by kernel_rfl) ?_); (first | ((with_reducible refine fastK Tryz.prog rfl ?_); go_big_move) | (with_reducible refine fastN rfl ?_) | skip))) | ((with_reducible refine on_load ?_); (first | refine xl1 M ?_ | refine xlN M ?_); go_big_move) | ((with_reducible refine on_store ?_); (first | refine xs1 M ?_ | refine xsN M ?_); clear M; intro w' M; (try simp only [List.set_cons_zero, List.set_cons_succ] at M))) | go_values | go_skip | go_guarded | go_step | go_upon))
            rw [set_rev2] at M
            replace M := Mem.pop pV_len M Pick.head
            exact ⟨⟨k + 1, (z2, 2) :: r, _, _, rfl, by go_num, by omega, by simp only [List.length_cons]; omega, HL.out, HKI.out, HN, M⟩, by simp [intOf]; omega⟩
          · rw [eb] at HN HL HKI
            clear eb
            generalize brk v = bv at HN HL HKI HBV hbv
            have HN : Hid (Filt.runT Filt.numT Filt.idtT [] (xs.take (k + 1)) = some ((u ++ [32, 97, 110, 100, 32] ++ bv, 2) :: r)) := HN
            have HL : Hid (sumT ((u ++ [32, 97, 110, 100, 32] ++ bv, 2) :: r) ≤ 100 * (k + 1)) := HL
            have HKI : Hid (∀ p ∈ (u ++ [32, 97, 110, 100, 32] ++ bv, 2) :: r, KT p) := HKI
            obtain ⟨z1, hz1⟩ : ∃ z, u ++ [32, 97, 110, 100, 32] = z := ⟨_, rfl⟩
            rw [hz1] at HN HL HKI
            have C1 : Hid (∀ w, (binOp BinOp.add 9 (str u) (str [32, 97, 110, 100, 32])).run Tryz.prog w = .ok (str z1) w) := Lib.hid (fun w => by rw [← hz1]; exact run_cat u [32, 97, 110, 100, 32] (by (try simp only [List.length_cons, List.length_nil]); omega) w)
            have lz1 : z1.length ≤ 1000007 := by rw [← hz1, List.length_append]; (try simp only [List.length_cons, List.length_nil]); omega
            clear hz1
            obtain ⟨z2, hz2⟩ : ∃ z, z1 ++ bv = z := ⟨_, rfl⟩
            rw [hz2] at HN HL HKI
            have C2 : Hid (∀ w, (binOp BinOp.add 9 (str z1) (str bv)).run Tryz.prog w = .ok (str z2) w) := Lib.hid (fun w => by rw [← hz2]; exact run_cat z1 bv (by (try simp only [List.length_cons, List.length_nil]); omega) w)
            have lz2 : z2.length ≤ 2000010 := by rw [← hz2, List.length_append]; (try simp only [List.length_cons, List.length_nil]); omega
            clear hz2
            as_aux_lemma =>
            (try dsimp only); (repeat (first | (first | ((with_reducible refine on_load ?_); refine xlC (M.far H0.out) ?_; go_big_move) | ((with_reducible refine on_load ?_); refine xlC (M.cellO (k := r.length) (x := (u, ka)) (j := 0) pV_len Pick.head HU.out rfl) ?_; go_big_move) | ((with_reducible refine on_load ?_); refine xlC (M.cellO (k := r.length) (x := (u, ka)) (j := 1) pV_len Pick.head HU.out rfl) ?_; go_big_move) | ((with_reducible refine on_load ?_); refine xlC (M.cellO (k := r.length + 1) (x := (v, kb)) (j := 0) pV_len Pick.head HV.out rfl) ?_; go_big_move) | ((with_reducible refine on_load ?_); refine xlC (M.cellO (k := r.length + 1) (x := (v, kb)) (j := 1) pV_len Pick.head HV.out rfl) ?_; go_big_move) | ((with_reducible refine on_load ?_); refine xlR (fun j z (hz : [str u, fi (ka : Int)][j]? = some z) => M.cellO (k := r.length) (x := (u, ka)) (j := j) pV_len Pick.head HU.out hz) ?_; go_big_move) | ((with_reducible refine on_load ?_); refine xlR (fun j z (hz : [str v, fi (kb : Int)][j]? = some z) => M.cellO (k := r.length + 1) (x := (v, kb)) (j := j) pV_len Pick.head HV.out hz) ?_; go_big_move) | (go_at_call 27; (first | (with_reducible refine (HBU.out _).mono ?_) | (with_reducible refine (HBV.out _).mono ?_)); rintro _ w1 ⟨rfl, hX⟩; replace M := M.ext hX; clear hX; dsimp only) | ((with_reducible refine on_bin ?_); (first | refine wp_bin rfl rfl rfl rfl (C1.out _) ?_ | refine wp_bin rfl rfl rfl rfl (C2.out _) ?_); (first | ((with_reducible refine fastK Tryz.prog rfl ?_); go_big_move) | (with_reducible refine fastN rfl ?_) | skip)) | ((with_reducible refine on_store ?_); refine wp_storeO M (k := r.length) pV_len pk (z2, 2) (by first | (simp; done) | omega | (simp; omega)) _ _ _ rfl (i := r.length * 2) (by first | (simp; done) | omega | (simp; omega)) rfl rfl (by first | (simp [go_sem]; done) | (simp [go_sem]; rfl)) (pV_one _) ?_; clear M; intro w' hF M; clear hF; (first | ((with_reducible refine fastK Tryz.prog rfl ?_); go_big_move) | (with_reducible refine fastN rfl ?_) | skip)) | ((with_reducible refine wl_g ?_); first | go_big_want | go_skip | ((with_reducible refine wl_off (by kernel_rfl) ?_); (first | ((with_reducible refine fastK Tryz.prog rfl ?_); go_big_move) | (with_reducible refine fastN rfl ?_) | skip))) | ((with_reducible refine on_load ?_); (first | refine xl1 M ?_ | refine xlN M ?_); go_big_move) | ((with_reducible refine on_store ?_); (first | refine xs1 M ?_ | refine xsN M ?_); clear M; intro w' M; (try simp only [List.set_cons_zero, List.set_cons_succ] at M))) | go_values | go_skip | go_guarded | go_step | go_upon))
            rw [set_rev2] at M
            replace M := Mem.pop pV_len M Pick.head
            exact ⟨⟨k + 1, (z2, 2) :: r, _, _, rfl, by go_num, by omega, by simp only [List.length_cons]; omega, HL.out, HKI.out, HN, M⟩, by simp [intOf]; omega⟩
        · rw [ea] at HN HL HKI
          clear ea
          rcases hcb with ⟨q3, eb⟩ | ⟨q3, eb⟩
          · rw [eb] at HN HL HKI
            clear eb
            generalize brk u = bu at HN HL HKI HBU hbu
            have HN : Hid (Filt.runT Filt.numT Filt.idtT [] (xs.take (k + 1)) = some ((bu ++ [32, 97, 110, 100, 32] ++ v, 2) :: r)) := HN
            have HL : Hid (sumT ((bu ++ [32, 97, 110, 100, 32] ++ v, 2) :: r) ≤ 100 * (k + 1)) := HL
            have HKI : Hid (∀ p ∈ (bu ++ [32, 97, 110, 100, 32] ++ v, 2) :: r, KT p) := HKI
            obtain ⟨z1, hz1⟩ : ∃ z, bu ++ [32, 97, 110, 100, 32] = z := ⟨_, rfl⟩
            rw [hz1] at HN HL HKI
            have C1 : Hid (∀ w, (binOp BinOp.add 9 (str bu) (str [32, 97, 110, 100, 32])).run Tryz.prog w = .ok (str z1) w) := Lib.hid (fun w => by rw [← hz1]; exact run_cat bu [32, 97, 110, 100, 32] (by (try simp only [List.length_cons, List.length_nil]); omega) w)
            have lz1 : z1.length ≤ 1000007 := by rw [← hz1, List.length_append]; (try simp only [List.length_cons, List.length_nil]); omega
            clear hz1
            obtain ⟨z2, hz2⟩ : ∃ z, z1 ++ v = z := ⟨_, rfl⟩
            rw [hz2] at HN HL HKI
            have C2 : Hid (∀ w, (binOp BinOp.add 9 (str z1) (str v)).run Tryz.prog w = .ok (str z2) w) := Lib.hid (fun w => by rw [← hz2]; exact run_cat z1 v (by (try simp only [List.length_cons, List.length_nil]); omega) w)
            have lz2 : z2.length ≤ 2000010 := by rw [← hz2, List.length_append]; (try simp only [List.length_cons, List.length_nil]); omega
            clear hz2
            as_aux_lemma =>
            (try dsimp only); (repeat (first | (first | ((with_reducible refine on_load ?_); refine xlC (M.far H0.out) ?_; go_big_move) | ((with_reducible refine on_load ?_); refine xlC (M.cellO (k := r.length) (x := (u, ka)) (j := 0) pV_len Pick.head HU.out rfl) ?_; go_big_move) | ((with_reducible refine on_load ?_); refine xlC (M.cellO (k := r.length) (x := (u, ka)) (j := 1) pV_len Pick.head HU.out rfl) ?_; go_big_move) | ((with_reducible refine on_load ?_); refine xlC (M.cellO (k := r.length + 1) (x := (v, kb)) (j := 0) pV_len Pick.head HV.out rfl) ?_; go_big_move) | ((with_reducible refine on_load ?_); refine xlC (M.cellO (k := r.length + 1) (x := (v, kb)) (j := 1) pV_len Pick.head HV.out rfl) ?_; go_big_move) | ((with_reducible refine on_load ?_); refine xlR (fun j z (hz : [str u, fi (ka : Int)][j]? = some z) => M.cellO (k := r.length) (x := (u, ka)) (j := j) pV_len Pick.head HU.out hz) ?_; go_big_move) | ((with_reducible refine on_load ?_); refine xlR (fun j z (hz : [str v, fi (kb : Int)][j]? = some z) => M.cellO (k := r.length + 1) (x := (v, kb)) (j := j) pV_len Pick.head HV.out hz) ?_; go_big_move) | (go_at_call 27; (first | (with_reducible refine (HBU.out _).mono ?_) | (with_reducible refine (HBV.out _).mono ?_)); rintro _ w1 ⟨rfl, hX⟩; replace M := M.ext hX; clear hX; dsimp only) | ((with_reducible refine on_bin ?_); (first | refine wp_bin rfl rfl rfl rfl (C1.out _) ?_ | refine wp_bin rfl rfl rfl rfl (C2.out _) ?_); (first | ((with_reducible refine fastK Tryz.prog rfl ?_); go_big_move) | (with_reducible refine fastN rfl ?_) | skip)) | ((with_reducible refine on_store ?_); refine wp_storeO M (k := r.length) pV_len pk (z2, 2) (by first | (simp; done) | omega | (simp; omega)) _ _ _ rfl (i := r.length * 2) (by first | (simp; done) | omega | (simp; omega)) rfl rfl (by first | (simp [go_sem]; done) | (simp [go_sem]; rfl)) (pV_one _) ?_; clear M; intro w' hF M; clear hF; (first | ((with_reducible refine fastK Tryz.prog rfl ?_); go_big_move) | (with_reducible refine fastN rfl ?_) | skip)) | ((with_reducible refine wl_g ?_); first | go_big_want | go_skip | ((with_reducible refine wl_off (by kernel_rfl) ?_); (first | ((with_reducible refine fastK Tryz.prog rfl ?_); go_big_move) | (with_reducible refine fastN rfl ?_) | skip))) | ((with_reducible refine on_load ?_); (first | refine xl1 M ?_ | refine xlN M ?_); go_big_move) | ((with_reducible refine on_store ?_); (first | refine xs1 M ?_ | refine xsN M ?_); clear M; intro w' M; (try simp only [List.set_cons_zero, List.set_cons_succ] at M))) | go_values | go_skip | go_guarded | go_step | go_upon))
            rw [set_rev2] at M
            replace M := Mem.pop pV_len M Pick.head
            exact ⟨⟨k + 1, (z2, 2) :: r, _, _, rfl, by go_num, by omega, by simp only [List.length_cons]; omega, HL.out, HKI.out, HN, M⟩, by simp [intOf]; omega⟩
          · rw [eb] at HN HL HKI
            clear eb
            generalize brk u = bu at HN HL HKI HBU hbu
            generalize brk v = bv at HN HL HKI HBV hbv
            have HN : Hid (Filt.runT Filt.numT Filt.idtT [] (xs.take (k + 1)) = some ((bu ++ [32, 97, 110, 100, 32] ++ bv, 2) :: r)) := HN
            have HL : Hid (sumT ((bu ++ [32, 97, 110, 100, 32] ++ bv, 2) :: r) ≤ 100 * (k + 1)) := HL
            have HKI : Hid (∀ p ∈ (bu ++ [32, 97, 110, 100, 32] ++ bv, 2) :: r, KT p) := HKI
            obtain ⟨z1, hz1⟩ : ∃ z, bu ++ [32, 97, 110, 100, 32] = z := ⟨_, rfl⟩
            rw [hz1] at HN HL HKI
            have C1 : Hid (∀ w, (binOp BinOp.add 9 (str bu) (str [32, 97, 110, 100, 32])).run Tryz.prog w = .ok (str z1) w) := Lib.hid (fun w => by rw [← hz1]; exact run_cat bu [32, 97, 110, 100, 32] (by (try simp only [List.length_cons, List.length_nil]); omega) w)
            have lz1 : z1.length ≤ 1000007 := by rw [← hz1, List.length_append]; (try simp only [List.length_cons, List.length_nil]); omega
            clear hz1
            obtain ⟨z2, hz2⟩ : ∃ z, z1 ++ bv = z := ⟨_, rfl⟩
            rw [hz2] at HN HL HKI
            have C2 : Hid (∀ w, (binOp BinOp.add 9 (str z1) (str bv)).run Tryz.prog w = .ok (str z2) w) := Lib.hid (fun w => by rw [← hz2]; exact run_cat z1 bv (by (try simp only [List.length_cons, List.length_nil]); omega) w)
            have lz2 : z2.length ≤ 2000010 := by rw [← hz2, List.length_append]; (try simp only [List.length_cons, List.length_nil]); omega
            clear hz2
            as_aux_lemma =>
            (try dsimp only); (repeat (first | (first | ((with_reducible refine on_load ?_); refine xlC (M.far H0.out) ?_; go_big_move) | ((with_reducible refine on_load ?_); refine xlC (M.cellO (k := r.length) (x := (u, ka)) (j := 0) pV_len Pick.head HU.out rfl) ?_; go_big_move) | ((with_reducible refine on_load ?_); refine xlC (M.cellO (k := r.length) (x := (u, ka)) (j := 1) pV_len Pick.head HU.out rfl) ?_; go_big_move) | ((with_reducible refine on_load ?_); refine xlC (M.cellO (k := r.length + 1) (x := (v, kb)) (j := 0) pV_len Pick.head HV.out rfl) ?_; go_big_move) | ((with_reducible refine on_load ?_); refine xlC (M.cellO (k := r.length + 1) (x := (v, kb)) (j := 1) pV_len Pick.head HV.out rfl) ?_; go_big_move) | ((with_reducible refine on_load ?_); refine xlR (fun j z (hz : [str u, fi (ka : Int)][j]? = some z) => M.cellO (k := r.length) (x := (u, ka)) (j := j) pV_len Pick.head HU.out hz) ?_; go_big_move) | ((with_reducible refine on_load ?_); refine xlR (fun j z (hz : [str v, fi (kb : Int)][j]? = some z) => M.cellO (k := r.length + 1) (x := (v, kb)) (j := j) pV_len Pick.head HV.out hz) ?_; go_big_move) | (go_at_call 27; (first | (with_reducible refine (HBU.out _).mono ?_) | (with_reducible refine (HBV.out _).mono ?_)); rintro _ w1 ⟨rfl, hX⟩; replace M := M.ext hX; clear hX; dsimp only) | ((with_reducible refine on_bin ?_); (first | refine wp_bin rfl rfl rfl rfl (C1.out _) ?_ | refine wp_bin rfl rfl rfl rfl (C2.out _) ?_); (first | ((with_reducible refine fastK Tryz.prog rfl ?_); go_big_move) | (with_reducible refine fastN rfl ?_) | skip)) | ((with_reducible refine on_store ?_); refine wp_storeO M (k := r.length) pV_len pk (z2, 2) (by first | (simp; done) | omega | (simp; omega)) _ _ _ rfl (i := r.length * 2) (by first | (simp; done) | omega | (simp; omega)) rfl rfl (by first | (simp [go_sem]; done) | (simp [go_sem]; rfl)) (pV_one _) ?_; clear M; intro w' hF M; clear hF; (first | ((with_reducible refine fastK Tryz.prog rfl ?_); go_big_move) | (with_reducible refine fastN rfl ?_) | skip)) | ((with_reducible refine wl_g ?_); first | go_big_want | go_skip | ((with_reducible refine wl_off (by kernel_rfl) ?_); (first | ((with_reducible refine fastK Tryz.prog rfl ?_); go_big_move) | (with_reducible refine fastN rfl ?_) | skip))) | ((with_reducible refine on_load ?_); (first | refine xl1 M ?_ | refine xlN M ?_); go_big_move) | ((with_reducible refine on_store ?_); (first | refine xs1 M ?_ | refine xsN M ?_); clear M; intro w' M; (try simp only [List.set_cons_zero, List.set_cons_succ] at M))) | go_values | go_skip | go_guarded | go_step | go_upon))
            rw [set_rev2] at M
            replace M := Mem.pop pV_len M Pick.head
            exact ⟨⟨k + 1, (z2, 2) :: r, _, _, rfl, by go_num, by omega, by simp only [List.length_cons]; omega, HL.out, HKI.out, HN, M⟩, by simp [intOf]; omega⟩
      | any =>
        match rt, hst with
        | (v, kb) :: (u, ka) :: r, hst =>
        cases hst
        have H0 : Hid (w.cell? ⟨gf, k * 5, none⟩ = some (fi 3)) := Lib.hid (HX.out 0 _ rfl)
        have hs2 : v.length + (u.length + sumT r) ≤ 1000000 := hs1
        obtain ⟨gS, rfl⟩ := M.some_of Pick.head (by simp)
        have HU : Hid ((((v, kb) :: (u, ka) :: r).reverse)[r.length]? = some (u, ka)) := Lib.hid (by rw [List.reverse_cons, List.reverse_cons]; simp)
        have HV : Hid ((((v, kb) :: (u, ka) :: r).reverse)[r.length + 1]? = some (v, kb)) := Lib.hid (by rw [List.reverse_cons, List.reverse_cons]; simp)
        have hcap := M.cap Pick.head
        simp only [List.length_reverse, List.length_cons] at hcap
        have hcap2 : (r.length : Int) + 1 ≤ (c : Int) := by omega
        have hcap3 : ¬ (c : Int) < (r.length : Int) + 1 := by omega
        simp only [List.length_cons] at hrt
        have hw1 : IntKind.i64.wrap ((r.length : Int) + 1 + 1 - 1) = (r.length : Int) + 1 := by rw [show (r.length : Int) + 1 + 1 - 1 = r.length + 1 by omega]; exact IntWalk.i64_in _ (by omega)
        have hw2 : IntKind.i64.wrap ((r.length : Int) + 1 + 1 - 2) = (r.length : Int) := by rw [show (r.length : Int) + 1 + 1 - 2 = r.length by omega]; exact IntWalk.i64_in _ (by omega)
        clear hkind hxo
        have HN : Hid (Filt.runT Filt.numT Filt.idtT [] (xs.take (k + 1)) = some ((u ++ [32, 111, 114, 32] ++ v, 3) :: r)) := HN
        have HL : Hid (sumT ((u ++ [32, 111, 114, 32] ++ v, 3) :: r) ≤ 100 * (k + 1)) := HL
        have HKI : Hid (∀ p ∈ (u ++ [32, 111, 114, 32] ++ v, 3) :: r, KT p) := HKI
        obtain ⟨z1, hz1⟩ : ∃ z, u ++ [32, 111, 114, 32] = z := ⟨_, rfl⟩
        rw [hz1] at HN HL HKI
        have C1 : Hid (∀ w, (binOp BinOp.add 9 (str u) (str [32, 111, 114, 32])).run Tryz.prog w = .ok (str z1) w) := Lib.hid (fun w => by rw [← hz1]; exact run_cat u [32, 111, 114, 32] (by (try simp only [List.length_cons, List.length_nil]); omega) w)
        have lz1 : z1.length ≤ 1000006 := by rw [← hz1, List.length_append]; (try simp only [List.length_cons, List.length_nil]); omega
        clear hz1
        obtain ⟨z2, hz2⟩ : ∃ z, z1 ++ v = z := ⟨_, rfl⟩
        rw [hz2] at HN HL HKI
        have C2 : Hid (∀ w, (binOp BinOp.add 9 (str z1) (str v)).run Tryz.prog w = .ok (str z2) w) := Lib.hid (fun w => by rw [← hz2]; exact run_cat z1 v (by (try simp only [List.length_cons, List.length_nil]); omega) w)
        have lz2 : z2.length ≤ 2000010 := by rw [← hz2, List.length_append]; (try simp only [List.length_cons, List.length_nil]); omega
        clear hz2
        as_aux_lemma =>
        (try dsimp only); (repeat (first | (first | ((with_reducible refine on_load ?_); refine xlC (M.far H0.out) ?_; go_big_move) | ((with_reducible refine on_region 7 ?_); refine wp_region_mem0 M (by kernel_rfl) (by kernel_rfl) ?_; clear M; intro w' M; (repeat (first | ((with_reducible refine st_load ?_); first | (first | (refine st_load1C _ _ rfl _ (M.cellO (k := r.length) (x := (u, ka)) (j := 0) pV_len Pick.head HU.out rfl) (fun w => ⟨by first | (simp [go_sem]; done) | (simp [go_sem]; rfl), by first | (simp [go_sem]; done) | (simp [go_sem]; rfl)⟩) ?_; (first | ((with_reducible refine fastS Tryz.prog rfl ?_); go_big_move; (with_reducible show wpStill _ _ _ _ _ _)) | (with_reducible refine fastSN rfl ?_) | skip)) | (refine st_load1C _ _ rfl _ (M.cellO (k := r.length + 1) (x := (v, kb)) (j := 0) pV_len Pick.head HV.out rfl) (fun w => ⟨by first | (simp [go_sem]; done) | (simp [go_sem]; rfl), by first | (simp [go_sem]; done) | (simp [go_sem]; rfl)⟩) ?_; (first | ((with_reducible refine fastS Tryz.prog rfl ?_); go_big_move; (with_reducible show wpStill _ _ _ _ _ _)) | (with_reducible refine fastSN rfl ?_) | skip))) | (refine st_load1 M _ _ rfl pk (fun w => ⟨by first | (simp [go_sem]; done) | (simp [go_sem]; rfl), by first | (simp [go_sem]; done) | (simp [go_sem]; rfl)⟩) _ (by rfl) ?_; (first | ((with_reducible refine fastS Tryz.prog rfl ?_); go_big_move; (with_reducible show wpStill _ _ _ _ _ _)) | (with_reducible refine fastSN rfl ?_) | skip)) | (refine st_loadN M _ rfl pk (fun w => ⟨by first | (simp [go_sem]; done) | (simp [go_sem]; rfl), by first | (simp [go_sem]; done) | (simp [go_sem]; rfl)⟩) ?_; (first | ((with_reducible refine fastS Tryz.prog rfl ?_); go_big_move; (with_reducible show wpStill _ _ _ _ _ _)) | (with_reducible refine fastSN rfl ?_) | skip))) | ((with_reducible refine st_g ?_); first | ((with_reducible refine st_on2 (by kernel_rfl) (fun Q' hQ' => ?_) ?_); (focus (go_big_want; rename_i K hK; go_big_move; refine hK _ _ ?_; exact hQ' _))) | ((with_reducible refine st_off (by kernel_rfl) ?_); (first | ((with_reducible refine fastS Tryz.prog rfl ?_); go_big_move; (with_reducible show wpStill _ _ _ _ _ _)) | (with_reducible refine fastSN rfl ?_) | skip))) | ((with_reducible refine st_on_bin ?_); first | ((first | refine st_bin rfl rfl (fun _ => rfl) C1.out ?_ | refine st_bin rfl rfl (fun _ => rfl) C2.out ?_); (first | ((with_reducible refine fastS Tryz.prog rfl ?_); go_big_move; (with_reducible show wpStill _ _ _ _ _ _)) | (with_reducible refine fastSN rfl ?_) | skip))) | ((with_reducible refine st_quiet2 rfl rfl (fun K hK => ?_)); (first | go_big_move | go_big_op); refine hK _ ?_; clear hK K) | still_step)); refine wpStill_nil ?_) | ((with_reducible refine on_store ?_); refine wp_storeO M (k := r.length) pV_len pk (z2, 3) (by first | (simp; done) | omega | (simp; omega)) _ _ _ rfl (i := r.length * 2) (by first | (simp; done) | omega | (simp; omega)) rfl rfl (by first | (simp [go_sem]; done) | (simp [go_sem]; rfl)) (pV_one _) ?_; clear M; intro w' hF M; clear hF; (first | ((with_reducible refine fastK Tryz.prog rfl ?_); go_big_move) | (with_reducible refine fastN rfl ?_) | skip)) | ((with_reducible refine wl_g ?_); first | go_big_want | go_skip | ((with_reducible refine wl_off (by kernel_rfl) ?_); (first | ((with_reducible refine fastK Tryz.prog rfl ?_); go_big_move) | (with_reducible refine fastN rfl ?_) | skip))) | ((with_reducible refine on_load ?_); (first | refine xl1 M ?_ | refine xlN M ?_); go_big_move) | ((with_reducible refine on_store ?_); (first | refine xs1 M ?_ | refine xsN M ?_); clear M; intro w' M; (try simp only [List.set_cons_zero, List.set_cons_succ] at M))) | go_values | go_skip | go_guarded | go_step | go_upon))
        rw [set_rev2] at M
        replace M := Mem.pop pV_len M Pick.head
        exact ⟨⟨k + 1, (z2, 3) :: r, _, _, rfl, by go_num, by omega, by simp only [List.length_cons]; omega, HL.out, HKI.out, HN, M⟩, by simp [intOf]; omega⟩
    · have hke : k = xs.length := by omega
      have hrun := HP.out
      rw [hke, List.take_length, HR.out] at hrun
      have q1 : decide ((k : Int) < (xs.length : Int)) = false := by simp; omega
      cases hrun
      obtain ⟨gS, rfl⟩ := M.some_of Pick.head (by simp)
      have hc0 := M.cellO (k := 0) (x := (t0, k0)) (j := 0) pV_len Pick.head rfl rfl
      have HV := Lib.hid hc0
      clear hc0 hke
      as_aux_lemma =>
      (try dsimp only); (repeat (first | (first | ((with_reducible refine on_load ?_); refine xlC HV.out ?_; go_big_move) | ((with_reducible refine wl_g ?_); first | go_big_want | go_skip | ((with_reducible refine wl_off (by kernel_rfl) ?_); (first | ((with_reducible refine fastK Tryz.prog rfl ?_); go_big_move) | (with_reducible refine fastN rfl ?_) | skip))) | ((with_reducible refine on_load ?_); (first | refine xl1 M ?_ | refine xlN M ?_); go_big_move) | ((with_reducible refine on_store ?_); (first | refine xs1 M ?_ | refine xsN M ?_); clear M; intro w' M; (try simp only [List.set_cons_zero, List.set_cons_succ] at M))) | go_values | go_skip | go_guarded | go_step | go_upon))
      exact ret_m1 rfl (Out.tmp rfl) rfl ⟨rfl, M.ext_of⟩
/-- the document's Text of a filter's nodes that lie in the call's own memory -/
theorem rtext_row (n : Nd) (hv : Valid n) (hs : n.size ≤ 10000) {S : Nat → Prop} {w0 w : World} {l : List Res} {F : Res → List Res} {A : Option Addr} {c : Nat} (M : Mem S w0 l w) (p : Pick l (ow 63 fnV 5 A c (flat n)) F) :
    Calls Tryz.prog 13 #[.slice A (flat n).length c] w fun e w' => e = .returned (str (ftxt n)) ∧ Ext w w' := by
  obtain ⟨g, rfl⟩ := M.some_of p (flat_ne n)
  exact rText_some (flat n) (flat_valid hv) _ _ (runT_flat _ _ n []) g c (by rw [flat_len]; exact hs) w (row_lt (flat_ne n) M p) (row_cells M p)
set_option maxRecDepth 100000 in
set_option maxHeartbeats 800000 in
theorem rtext_nil (w : World) : Calls Tryz.prog 13 #[.slice none 0 0] w fun e w' => e = .returned (str []) ∧ Ext w w' := by
  have M := Mem.start w
  go_enter Tryz.func13, Tryz.ntmps13
  (try dsimp only); (repeat (first | (first | ((with_reducible refine wl_g ?_); first | go_big_want | go_skip | ((with_reducible refine wl_off (by kernel_rfl) ?_); (first | ((with_reducible refine fastK Tryz.prog rfl ?_); go_big_move) | (with_reducible refine fastN rfl ?_) | skip))) | ((with_reducible refine on_load ?_); (first | refine xl1 M ?_ | refine xlN M ?_); go_big_move) | ((with_reducible refine on_store ?_); (first | refine xs1 M ?_ | refine xsN M ?_); clear M; intro w' M; (try simp only [List.set_cons_zero, List.set_cons_succ] at M))) | go_values | go_skip | go_guarded | go_step | go_upon))
  go_loopw [3, 4] (fun x y wr => x = .slice none 0 0 ∧ y = fi 0 ∧ ∃ l, Mem (· < w.heap.size) w l wr) (fun _ _ _ => 0)
  · exact ⟨rfl, rfl, _, M⟩
  · clear M
    obtain ⟨rfl, rfl, l, M⟩ := hrel
    (try dsimp only); (repeat (first | (first | ((with_reducible refine wl_g ?_); first | go_big_want | go_skip | ((with_reducible refine wl_off (by kernel_rfl) ?_); (first | ((with_reducible refine fastK Tryz.prog rfl ?_); go_big_move) | (with_reducible refine fastN rfl ?_) | skip))) | ((with_reducible refine on_load ?_); (first | refine xl1 M ?_ | refine xlN M ?_); go_big_move) | ((with_reducible refine on_store ?_); (first | refine xs1 M ?_ | refine xsN M ?_); clear M; intro w' M; (try simp only [List.set_cons_zero, List.set_cons_succ] at M))) | go_values | go_skip | go_guarded | go_step | go_upon))
    exact ret_m1 rfl (Out.tmp rfl) rfl ⟨rfl, M.ext_of⟩
end Go.Proofs.YtkblkdnihppmnaaGreatDoor
