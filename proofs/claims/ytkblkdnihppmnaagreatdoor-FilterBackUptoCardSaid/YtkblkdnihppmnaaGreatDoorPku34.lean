/- Parts of this work, one behind the other: FiltZb. -/
import Derived.Test.YtkblkdnihppmnaaGreatDoorPku29
/- Filters (layer 21): a part's text (walk, third part): the id, not. -/
namespace Go.Proofs.YtkblkdnihppmnaaGreatDoor
set_option linter.unusedSimpArgs false
set_option linter.unusedVariables false
open Go.RowKit Res Filt

/-- a part's text, by its method -/
def TextIs (n : Nd) (t : List UInt8) : Prop :=
  ∀ w, Nv w → Calls Tryz.prog (textF n) #[payV n] w fun e w' => e = .returned (str t) ∧ Ext w w'
def idtT (k : Nat) (t : List UInt8) : List UInt8 := ((([105, 100, 32] ++ askNames.getD k []) ++ [32, 34]) ++ t) ++ [34]
set_option maxRecDepth 100000 in
set_option maxHeartbeats 800000 in
theorem named_text (k : Nat) (hk : k < 6) (t : List UInt8) (ht : t.length ≤ 64) : TextIs (.idt k t) (idtT k t) := by
  intro w hN
  have M := Mem.start w
  show Calls Tryz.prog 130 #[.agg #[str (askNames.getD k []), str t]] w fun e w' => e = .returned (str (((([105, 100, 32] ++ askNames.getD k []) ++ [32, 34]) ++ t) ++ [34])) ∧ Ext w w'
  have ha : (askNames.getD k []).length ≤ 2 := by
    have h : ((List.range 6).all fun k => decide ((askNames.getD k []).length ≤ 2)) = true := by decide
    simpa using List.all_eq_true.1 h k (List.mem_range.2 hk)
  generalize askNames.getD k [] = a at ha ⊢
  have h1 := run_cat [105, 100, 32] a (by simp; omega)
  have h2 := run_cat ([105, 100, 32] ++ a) [32, 34] (by simp; omega)
  have h3 := run_cat (([105, 100, 32] ++ a) ++ [32, 34]) t (by simp; omega)
  have h4 := run_cat ((([105, 100, 32] ++ a) ++ [32, 34]) ++ t) [34] (by simp; omega)
  have H1 := Lib.hid h1
  have H2 := Lib.hid h2
  have H3 := Lib.hid h3
  have H4 := Lib.hid h4
  clear h1 h2 h3 h4 hN
  go_enter Tryz.func130, Tryz.ntmps130
  (try dsimp only); (repeat (first | (first | ((with_reducible refine on_bin ?_); (first | refine wp_bin rfl rfl rfl rfl (H1.out _) ?_ | refine wp_bin rfl rfl rfl rfl (H2.out _) ?_ | refine wp_bin rfl rfl rfl rfl (H3.out _) ?_ | refine wp_bin rfl rfl rfl rfl (H4.out _) ?_); (first | ((with_reducible refine fastK Tryz.prog rfl ?_); go_big_move) | (with_reducible refine fastN rfl ?_) | skip)) | ((with_reducible refine wl_g ?_); first | go_big_want | go_skip | ((with_reducible refine wl_off (by kernel_rfl) ?_); (first | ((with_reducible refine fastK Tryz.prog rfl ?_); go_big_move) | (with_reducible refine fastN rfl ?_) | skip))) | ((with_reducible refine on_load ?_); (first | refine xl1 M ?_ | refine xlN M ?_); go_big_move) | ((with_reducible refine on_store ?_); (first | refine xs1 M ?_ | refine xsN M ?_); clear M; intro w' M; (try simp only [List.set_cons_zero, List.set_cons_succ] at M)) | ((with_reducible refine on_box ?_); refine xb M ?_; clear M; intro g w' M; go_big_move) | ((with_reducible refine on_alloc ?_); refine xa M ?_; clear M; intro g w' M; go_big_move)) | go_values | go_skip | go_guarded | go_step | go_upon))
  exact ret_m1 rfl (Out.tmp rfl) rfl ⟨rfl, M.ext_of⟩
set_option maxRecDepth 100000 in
set_option maxHeartbeats 800000 in
theorem not_text (n : Nd) (t : List UInt8) (h : TextIs n t) (ht : t.length ≤ 1000000) : TextIs (.not n) (sNot ++ Filt.within 2 n t) := by
  intro w hN
  have M := Mem.start w
  have HT : Hid (∀ w', Ext w w' → Calls Tryz.prog (textF n) #[payV n] w' fun e w'' => e = .returned (str t) ∧ Ext w' w'') := Lib.hid (fun w' hX => h w' (hN.ext hX))
  have HW : Hid (∀ w', Ext w w' → Calls Tryz.prog 122 #[.iface (tyV n) (payV n), fi 2] w' fun e w'' => e = .returned (str (Filt.within 2 n t)) ∧ Ext w' w'') := Lib.hid (fun w' hX => within_any n t 2 ht w' (Lib.hid fun w'' hX2 => h w'' ((hN.ext hX).ext hX2)))
  have hl : (Filt.within 2 n t).length ≤ 1000002 := by unfold Filt.within brk; split <;> (try simp) <;> omega
  show Calls Tryz.prog 127 #[.agg #[ndV n]] w fun e w' => e = .returned (str ([110, 111, 116, 32] ++ Filt.within 2 n t)) ∧ Ext w w'
  rw [ndV_eq n]
  generalize Filt.within 2 n t = u at HW hl ⊢
  have H1 := Lib.hid (run_cat [110, 111, 116, 32] u (by simp; omega))
  clear h hN
  go_enter Tryz.func127, Tryz.ntmps127
  (try dsimp only); (repeat (first | (first | (go_at_call 122; (with_reducible refine (HW.out _ M.ext_of).mono ?_); rintro _ w1 ⟨rfl, hX⟩; replace M := M.ext hX; clear hX; dsimp only) | ((with_reducible refine on_bin ?_); refine wp_bin rfl rfl rfl rfl (H1.out _) ?_; (first | ((with_reducible refine fastK Tryz.prog rfl ?_); go_big_move) | (with_reducible refine fastN rfl ?_) | skip)) | ((with_reducible refine wl_g ?_); first | go_big_want | go_skip | ((with_reducible refine wl_off (by kernel_rfl) ?_); (first | ((with_reducible refine fastK Tryz.prog rfl ?_); go_big_move) | (with_reducible refine fastN rfl ?_) | skip))) | ((with_reducible refine on_load ?_); (first | refine xl1 M ?_ | refine xlN M ?_); go_big_move) | ((with_reducible refine on_store ?_); (first | refine xs1 M ?_ | refine xsN M ?_); clear M; intro w' M; (try simp only [List.set_cons_zero, List.set_cons_succ] at M)) | ((with_reducible refine on_box ?_); refine xb M ?_; clear M; intro g w' M; go_big_move) | ((with_reducible refine on_alloc ?_); refine xa M ?_; clear M; intro g w' M; go_big_move)) | go_values | go_skip | go_guarded | go_step | go_upon))
  exact ret_m1 rfl (Out.tmp rfl) rfl ⟨rfl, M.ext_of⟩
set_option maxRecDepth 100000 in
set_option maxHeartbeats 800000 in
theorem any_text (n m : Nd) (t u : List UInt8) (h1 : TextIs n t) (h2 : TextIs m u) (ht : t.length ≤ 1000000) (hu : u.length ≤ 1000000) : TextIs (.any n m) (t ++ sOr ++ u) := by
  intro w hN
  have M := Mem.start w
  have HT : Hid (∀ w', Ext w w' → Calls Tryz.prog (textF n) #[payV n] w' fun e w'' => e = .returned (str t) ∧ Ext w' w'') := Lib.hid (fun w' hX => h1 w' (hN.ext hX))
  have HU : Hid (∀ w', Ext w w' → Calls Tryz.prog (textF m) #[payV m] w' fun e w'' => e = .returned (str u) ∧ Ext w' w'') := Lib.hid (fun w' hX => h2 w' (hN.ext hX))
  have HM := Lib.hid (method_text n)
  have HC := Lib.hid (call_text n)
  have HM2 := Lib.hid (method_text m)
  have HC2 := Lib.hid (call_text m)
  show Calls Tryz.prog 118 #[.agg #[ndV n, ndV m]] w fun e w' => e = .returned (str ((t ++ [32, 111, 114, 32]) ++ u)) ∧ Ext w w'
  rw [ndV_eq n, ndV_eq m]
  clear h1 h2 hN
  go_enter Tryz.func118, Tryz.ntmps118
  (try dsimp only); (repeat (first | (first | fail | ((with_reducible refine on_load ?_); (first | refine xl1 M ?_ | refine xlN M ?_); go_big_move) | ((with_reducible refine on_store ?_); (first | refine xs1 M ?_ | refine xsN M ?_); clear M; intro w' M; (try simp only [List.set_cons_zero, List.set_cons_succ] at M)) | ((with_reducible refine on_box ?_); refine xb M ?_; clear M; intro g w' M; go_big_move) | ((with_reducible refine on_alloc ?_); refine xa M ?_; clear M; intro g w' M; go_big_move)) | go_values | go_skip | go_guarded | go_step | go_upon))
  ((with_reducible refine on_region 1 ?_); refine wp_region_keep M [1] 9 [(0, true), (1, true), (4, true), (5, true), (2, false), (3, true), (6, false), (7, true), (8, true)] (by kernel_rfl) (by kernel_rfl) (fun _ _ d _ _ h => by cases d <;> exact h) ?_; clear M; intro w' M; ((refine wpSch_q ?_ rfl rfl (fun w' hR => ?_) ?_); rotate_left; (focus (go_simp; first | rfl | rw [if_neg (by simp; omega)] | rw [if_neg (by omega)] | rw [if_pos (by omega)] | (rw [if_pos (by omega)]; simp; done))); (first | simp only [Act.put, List.setIfInBounds_toArray, List.set_cons_zero, List.set_cons_succ] | skip)); ((first | refine zl1 M 1 ?_ | refine zlN M 1 ?_); (first | simp only [Act.put, List.setIfInBounds_toArray, List.set_cons_zero, List.set_cons_succ] | skip)); ((refine wpSch_q ?_ rfl rfl (fun w' hR => ?_) ?_); rotate_left; (focus (go_simp; first | rfl | rw [if_neg (by simp; omega)] | rw [if_neg (by omega)] | rw [if_pos (by omega)] | (rw [if_pos (by omega)]; simp; done))); (first | simp only [Act.put, List.setIfInBounds_toArray, List.set_cons_zero, List.set_cons_succ] | skip)); ((first | refine zl1 M 1 ?_ | refine zlN M 1 ?_); (first | simp only [Act.put, List.setIfInBounds_toArray, List.set_cons_zero, List.set_cons_succ] | skip)); (refine wpSch_e rfl rfl (fun K hK => ?_); go_simp; simp only [HM.out, HC.out, Result.andThen_ok]; rw [Oper.upon_enter]; refine (HT.out _ M.ext_of).mono ?_; rintro _ w1 ⟨rfl, hX⟩; refine hK _ _ (fun _ => keepR.ext hX) ?_; replace M := M.ext hX; clear hX; clear hK K; (first | simp only [Act.put, List.setIfInBounds_toArray, List.set_cons_zero, List.set_cons_succ] | skip)); ((refine wpSch_q ?_ rfl rfl (fun w' hR => ?_) ?_); rotate_left; (focus (go_simp; first | rfl | rw [if_neg (by simp; omega)] | rw [if_neg (by omega)] | rw [if_pos (by omega)] | (rw [if_pos (by omega)]; simp; done))); (first | simp only [Act.put, List.setIfInBounds_toArray, List.set_cons_zero, List.set_cons_succ] | skip)); (refine wpSch_e rfl rfl (fun K hK => ?_); go_simp; simp only [HM2.out, HC2.out, Result.andThen_ok]; rw [Oper.upon_enter]; refine (HU.out _ M.ext_of).mono ?_; rintro _ w1 ⟨rfl, hX⟩; refine hK _ _ (fun _ => keepR.ext hX) ?_; replace M := M.ext hX; clear hX; clear hK K; (first | simp only [Act.put, List.setIfInBounds_toArray, List.set_cons_zero, List.set_cons_succ] | skip)); (iterate 2 ((refine wpSch_q ?_ rfl rfl (fun w' hR => ?_) ?_); rotate_left; (focus (go_simp; first | rfl | rw [if_neg (by simp; omega)] | rw [if_neg (by omega)] | rw [if_pos (by omega)] | (rw [if_pos (by omega)]; simp; done))); (first | simp only [Act.put, List.setIfInBounds_toArray, List.set_cons_zero, List.set_cons_succ] | skip))); refine wpSch_nil ?_)
  (try dsimp only); (repeat (first | (first | ((with_reducible refine wl_g ?_); first | go_big_want | go_skip | ((with_reducible refine wl_off (by kernel_rfl) ?_); (first | ((with_reducible refine fastK Tryz.prog rfl ?_); go_big_move) | (with_reducible refine fastN rfl ?_) | skip))) | ((with_reducible refine on_load ?_); (first | refine xl1 M ?_ | refine xlN M ?_); go_big_move) | ((with_reducible refine on_store ?_); (first | refine xs1 M ?_ | refine xsN M ?_); clear M; intro w' M; (try simp only [List.set_cons_zero, List.set_cons_succ] at M)) | ((with_reducible refine on_box ?_); refine xb M ?_; clear M; intro g w' M; go_big_move) | ((with_reducible refine on_alloc ?_); refine xa M ?_; clear M; intro g w' M; go_big_move)) | go_values | go_skip | go_guarded | go_step | go_upon))
  refine ret_m1 rfl (Out.tmp rfl) rfl ⟨?_, M.ext_of⟩
  show Ending.returned _ = _
  congr 2
set_option maxRecDepth 100000 in
set_option maxHeartbeats 800000 in
theorem all_text (n m : Nd) (t u : List UInt8) (h1 : TextIs n t) (h2 : TextIs m u) (ht : t.length ≤ 1000000) (hu : u.length ≤ 1000000) : TextIs (.all n m) (Filt.within 1 n t ++ sAnd ++ Filt.within 1 m u) := by
  intro w hN
  have M := Mem.start w
  have HT : Hid (∀ w', Ext w w' → Calls Tryz.prog 122 #[.iface (tyV n) (payV n), fi 1] w' fun e w'' => e = .returned (str (Filt.within 1 n t)) ∧ Ext w' w'') := Lib.hid (fun w' hX => within_any n t 1 ht w' (Lib.hid fun w'' hX2 => h1 w'' ((hN.ext hX).ext hX2)))
  have HU : Hid (∀ w', Ext w w' → Calls Tryz.prog 122 #[.iface (tyV m) (payV m), fi 1] w' fun e w'' => e = .returned (str (Filt.within 1 m u)) ∧ Ext w' w'') := Lib.hid (fun w' hX => within_any m u 1 hu w' (Lib.hid fun w'' hX2 => h2 w'' ((hN.ext hX).ext hX2)))
  have hl : (Filt.within 1 n t).length ≤ 1000002 := by unfold Filt.within brk; split <;> (try simp) <;> omega
  have hm : (Filt.within 1 m u).length ≤ 1000002 := by unfold Filt.within brk; split <;> (try simp) <;> omega
  show Calls Tryz.prog 121 #[.agg #[ndV n, ndV m]] w fun e w' => e = .returned (str ((Filt.within 1 n t ++ [32, 97, 110, 100, 32]) ++ Filt.within 1 m u)) ∧ Ext w w'
  rw [ndV_eq n, ndV_eq m]
  generalize Filt.within 1 n t = x at HT hl ⊢
  generalize Filt.within 1 m u = y at HU hm ⊢
  clear h1 h2 hN
  go_enter Tryz.func121, Tryz.ntmps121
  (try dsimp only); (repeat (first | (first | fail | ((with_reducible refine on_load ?_); (first | refine xl1 M ?_ | refine xlN M ?_); go_big_move) | ((with_reducible refine on_store ?_); (first | refine xs1 M ?_ | refine xsN M ?_); clear M; intro w' M; (try simp only [List.set_cons_zero, List.set_cons_succ] at M)) | ((with_reducible refine on_box ?_); refine xb M ?_; clear M; intro g w' M; go_big_move) | ((with_reducible refine on_alloc ?_); refine xa M ?_; clear M; intro g w' M; go_big_move)) | go_values | go_skip | go_guarded | go_step | go_upon))
  ((with_reducible refine on_region 1 ?_); refine wp_region_keep M [1] 9 [(0, true), (1, true), (4, true), (5, true), (2, false), (3, true), (6, false), (7, true), (8, true)] (by kernel_rfl) (by kernel_rfl) (fun _ _ d _ _ h => by cases d <;> exact h) ?_; clear M; intro w' M; ((refine wpSch_q ?_ rfl rfl (fun w' hR => ?_) ?_); rotate_left; (focus (go_simp; first | rfl | rw [if_neg (by simp; omega)] | rw [if_neg (by omega)] | rw [if_pos (by omega)] | (rw [if_pos (by omega)]; simp; done))); (first | simp only [Act.put, List.setIfInBounds_toArray, List.set_cons_zero, List.set_cons_succ] | skip)); ((first | refine zl1 M 1 ?_ | refine zlN M 1 ?_); (first | simp only [Act.put, List.setIfInBounds_toArray, List.set_cons_zero, List.set_cons_succ] | skip)); ((refine wpSch_q ?_ rfl rfl (fun w' hR => ?_) ?_); rotate_left; (focus (go_simp; first | rfl | rw [if_neg (by simp; omega)] | rw [if_neg (by omega)] | rw [if_pos (by omega)] | (rw [if_pos (by omega)]; simp; done))); (first | simp only [Act.put, List.setIfInBounds_toArray, List.set_cons_zero, List.set_cons_succ] | skip)); ((first | refine zl1 M 1 ?_ | refine zlN M 1 ?_); (first | simp only [Act.put, List.setIfInBounds_toArray, List.set_cons_zero, List.set_cons_succ] | skip)); (refine wpSch_e rfl rfl (fun K hK => ?_); go_simp; refine (HT.out _ M.ext_of).mono ?_; rintro _ w1 ⟨rfl, hX⟩; refine hK _ _ (fun _ => keepR.ext hX) ?_; replace M := M.ext hX; clear hX; clear hK K; (first | simp only [Act.put, List.setIfInBounds_toArray, List.set_cons_zero, List.set_cons_succ] | skip)); ((refine wpSch_q ?_ rfl rfl (fun w' hR => ?_) ?_); rotate_left; (focus (go_simp; first | rfl | rw [if_neg (by simp; omega)] | rw [if_neg (by omega)] | rw [if_pos (by omega)] | (rw [if_pos (by omega)]; simp; done))); (first | simp only [Act.put, List.setIfInBounds_toArray, List.set_cons_zero, List.set_cons_succ] | skip)); (refine wpSch_e rfl rfl (fun K hK => ?_); go_simp; refine (HU.out _ M.ext_of).mono ?_; rintro _ w1 ⟨rfl, hX⟩; refine hK _ _ (fun _ => keepR.ext hX) ?_; replace M := M.ext hX; clear hX; clear hK K; (first | simp only [Act.put, List.setIfInBounds_toArray, List.set_cons_zero, List.set_cons_succ] | skip)); (iterate 2 ((refine wpSch_q ?_ rfl rfl (fun w' hR => ?_) ?_); rotate_left; (focus (go_simp; first | rfl | rw [if_neg (by simp; omega)] | rw [if_neg (by omega)] | rw [if_pos (by omega)] | (rw [if_pos (by omega)]; simp; done))); (first | simp only [Act.put, List.setIfInBounds_toArray, List.set_cons_zero, List.set_cons_succ] | skip))); refine wpSch_nil ?_)
  (try dsimp only); (repeat (first | (first | ((with_reducible refine wl_g ?_); first | go_big_want | go_skip | ((with_reducible refine wl_off (by kernel_rfl) ?_); (first | ((with_reducible refine fastK Tryz.prog rfl ?_); go_big_move) | (with_reducible refine fastN rfl ?_) | skip))) | ((with_reducible refine on_load ?_); (first | refine xl1 M ?_ | refine xlN M ?_); go_big_move) | ((with_reducible refine on_store ?_); (first | refine xs1 M ?_ | refine xsN M ?_); clear M; intro w' M; (try simp only [List.set_cons_zero, List.set_cons_succ] at M)) | ((with_reducible refine on_box ?_); refine xb M ?_; clear M; intro g w' M; go_big_move) | ((with_reducible refine on_alloc ?_); refine xa M ?_; clear M; intro g w' M; go_big_move)) | go_values | go_skip | go_guarded | go_step | go_upon))
  refine ret_m1 rfl (Out.tmp rfl) rfl ⟨?_, M.ext_of⟩
  show Ending.returned _ = _
  congr 2
end Go.Proofs.YtkblkdnihppmnaaGreatDoor
