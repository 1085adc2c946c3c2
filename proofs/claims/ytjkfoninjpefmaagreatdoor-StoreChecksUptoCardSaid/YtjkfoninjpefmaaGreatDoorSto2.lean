/- Which configurations a store may have (walks; printed by gen_sto.py). -/
import Derived.Test.YtjkfoninjpefmaaGreatDoorSto1
namespace Go.Proofs.YtjkfoninjpefmaaGreatDoor
set_option linter.unusedSimpArgs false
set_option linter.unusedVariables false
open Go.RowKit Res

def Right (c0 c1 c2 c3 c4 c5 c6 : Int) : Prop := (64 ≤ c0 ∧ c0 ≤ 65536) ∧ (64 ≤ c1 ∧ c1 ≤ 4096) ∧ (0 ≤ c2 ∧ c2 ≤ 20) ∧ (256 ≤ c3 ∧ c3 ≤ 65536) ∧ (1 ≤ c4 ∧ c4 ≤ 8) ∧ (256 ≤ c5 ∧ c5 ≤ 1048576) ∧ (1 ≤ c6 ∧ c6 ≤ 1000)
instance {c0 c1 c2 c3 c4 c5 c6 : Int} : Decidable (Right c0 c1 c2 c3 c4 c5 c6) := by unfold Right; infer_instance
theorem within_any (n l m : Int) (w : World) : Calls Tryz.prog 16 #[fi n, fi l, fi m] w fun e w' => e = .returned (.bool (decide (l ≤ n) && decide (n ≤ m))) ∧ Ext w w' := by
  have M := Mem.start w
  by_cases h : l ≤ n
  · have q0 : decide (l ≤ n) = true := by simpa using h
    rw [q0]
    go_enter Tryz.func16, Tryz.ntmps16
    (try dsimp only); (repeat (first | (first | ((with_reducible refine wl_g ?_); first | go_big_want | go_skip | ((with_reducible refine wl_off (by kernel_rfl) ?_); (first | ((with_reducible refine fastK Tryz.prog rfl ?_); go_big_move) | (with_reducible refine fastN rfl ?_) | skip))) | ((with_reducible refine on_load ?_); (first | refine xl1 M ?_ | refine xlN M ?_); go_big_move) | ((with_reducible refine on_store ?_); (first | refine xs1 M ?_ | refine xsN M ?_); clear M; intro w' M; (try simp only [List.set_cons_zero, List.set_cons_succ] at M)) | ((with_reducible refine on_box ?_); refine xb M ?_; clear M; intro g w' M; go_big_move) | ((with_reducible refine on_alloc ?_); refine xa M ?_; clear M; intro g w' M; go_big_move)) | go_values | go_skip | go_guarded | go_step | go_upon))
    refine ret_m1 rfl (Out.tmp rfl) rfl ⟨?_, M.ext_of⟩
    simp
  · have q0 : decide (l ≤ n) = false := by simpa using h
    rw [q0]
    go_enter Tryz.func16, Tryz.ntmps16
    (try dsimp only); (repeat (first | (first | ((with_reducible refine wl_g ?_); first | go_big_want | go_skip | ((with_reducible refine wl_off (by kernel_rfl) ?_); (first | ((with_reducible refine fastK Tryz.prog rfl ?_); go_big_move) | (with_reducible refine fastN rfl ?_) | skip))) | ((with_reducible refine on_load ?_); (first | refine xl1 M ?_ | refine xlN M ?_); go_big_move) | ((with_reducible refine on_store ?_); (first | refine xs1 M ?_ | refine xsN M ?_); clear M; intro w' M; (try simp only [List.set_cons_zero, List.set_cons_succ] at M)) | ((with_reducible refine on_box ?_); refine xb M ?_; clear M; intro g w' M; go_big_move) | ((with_reducible refine on_alloc ?_); refine xa M ?_; clear M; intro g w' M; go_big_move)) | go_values | go_skip | go_guarded | go_step | go_upon))
    exact ret_m1 rfl (Out.tmp rfl) rfl ⟨rfl, M.ext_of⟩
set_option maxRecDepth 100000 in
set_option maxHeartbeats 1000000 in
theorem check_0 (c0 c1 c2 c3 c4 c5 c6 c7 : Int) (h0 : (decide (64 ≤ c0) && decide (c0 ≤ 65536)) = false) (w : World) : Calls Tryz.prog 4 #[.agg #[fi c0, fi c1, fi c2, fi c3, fi c4, fi c5, fi c6, .int .u64 c7]] w fun e w' => e = .returned (fi 1) ∧ Ext w w' := by
  have M := Mem.start w
  have F0 : Hid (∀ w, Calls Tryz.prog 16 #[fi c0, fi 64, fi 65536] w fun e w' => e = .returned (.bool false) ∧ Ext w w') := Lib.hid (fun w => by have := within_any c0 64 65536 w; rwa [h0] at this)
  clear h0
  go_enter Tryz.func4, Tryz.ntmps4
  (try dsimp only); (repeat (first | (first | (go_at_call 16; (first | (with_reducible refine (F0.out _).mono ?_)); rintro _ w1 ⟨rfl, hX⟩; replace M := M.ext hX; clear hX; dsimp only) | ((with_reducible refine wl_g ?_); first | go_big_want | go_skip | ((with_reducible refine wl_off (by kernel_rfl) ?_); (first | ((with_reducible refine fastK Tryz.prog rfl ?_); go_big_move) | (with_reducible refine fastN rfl ?_) | skip))) | ((with_reducible refine on_load ?_); (first | refine xl1 M ?_ | refine xlN M ?_); go_big_move) | ((with_reducible refine on_store ?_); (first | refine xs1 M ?_ | refine xsN M ?_); clear M; intro w' M; (try simp only [List.set_cons_zero, List.set_cons_succ] at M)) | ((with_reducible refine on_box ?_); refine xb M ?_; clear M; intro g w' M; go_big_move) | ((with_reducible refine on_alloc ?_); refine xa M ?_; clear M; intro g w' M; go_big_move)) | go_values | go_skip | go_guarded | go_step | go_upon))
  exact ret_m1 rfl (Out.tmp rfl) rfl ⟨rfl, M.ext_of⟩
set_option maxRecDepth 100000 in
set_option maxHeartbeats 1000000 in
theorem check_1 (c0 c1 c2 c3 c4 c5 c6 c7 : Int) (h0 : (decide (64 ≤ c0) && decide (c0 ≤ 65536)) = true) (h1 : (decide (64 ≤ c1) && decide (c1 ≤ 4096)) = false) (w : World) : Calls Tryz.prog 4 #[.agg #[fi c0, fi c1, fi c2, fi c3, fi c4, fi c5, fi c6, .int .u64 c7]] w fun e w' => e = .returned (fi 1) ∧ Ext w w' := by
  have M := Mem.start w
  have F0 : Hid (∀ w, Calls Tryz.prog 16 #[fi c0, fi 64, fi 65536] w fun e w' => e = .returned (.bool true) ∧ Ext w w') := Lib.hid (fun w => by have := within_any c0 64 65536 w; rwa [h0] at this)
  have F1 : Hid (∀ w, Calls Tryz.prog 16 #[fi c1, fi 64, fi 4096] w fun e w' => e = .returned (.bool false) ∧ Ext w w') := Lib.hid (fun w => by have := within_any c1 64 4096 w; rwa [h1] at this)
  clear h0 h1
  go_enter Tryz.func4, Tryz.ntmps4
  (try dsimp only); (repeat (first | (first | (go_at_call 16; (first | (with_reducible refine (F0.out _).mono ?_) | (with_reducible refine (F1.out _).mono ?_)); rintro _ w1 ⟨rfl, hX⟩; replace M := M.ext hX; clear hX; dsimp only) | ((with_reducible refine wl_g ?_); first | go_big_want | go_skip | ((with_reducible refine wl_off (by kernel_rfl) ?_); (first | ((with_reducible refine fastK Tryz.prog rfl ?_); go_big_move) | (with_reducible refine fastN rfl ?_) | skip))) | ((with_reducible refine on_load ?_); (first | refine xl1 M ?_ | refine xlN M ?_); go_big_move) | ((with_reducible refine on_store ?_); (first | refine xs1 M ?_ | refine xsN M ?_); clear M; intro w' M; (try simp only [List.set_cons_zero, List.set_cons_succ] at M)) | ((with_reducible refine on_box ?_); refine xb M ?_; clear M; intro g w' M; go_big_move) | ((with_reducible refine on_alloc ?_); refine xa M ?_; clear M; intro g w' M; go_big_move)) | go_values | go_skip | go_guarded | go_step | go_upon))
  exact ret_m1 rfl (Out.tmp rfl) rfl ⟨rfl, M.ext_of⟩
set_option maxRecDepth 100000 in
set_option maxHeartbeats 1000000 in
theorem check_2 (c0 c1 c2 c3 c4 c5 c6 c7 : Int) (h0 : (decide (64 ≤ c0) && decide (c0 ≤ 65536)) = true) (h1 : (decide (64 ≤ c1) && decide (c1 ≤ 4096)) = true) (h2 : (decide (0 ≤ c2) && decide (c2 ≤ 20)) = false) (w : World) : Calls Tryz.prog 4 #[.agg #[fi c0, fi c1, fi c2, fi c3, fi c4, fi c5, fi c6, .int .u64 c7]] w fun e w' => e = .returned (fi 1) ∧ Ext w w' := by
  have M := Mem.start w
  have F0 : Hid (∀ w, Calls Tryz.prog 16 #[fi c0, fi 64, fi 65536] w fun e w' => e = .returned (.bool true) ∧ Ext w w') := Lib.hid (fun w => by have := within_any c0 64 65536 w; rwa [h0] at this)
  have F1 : Hid (∀ w, Calls Tryz.prog 16 #[fi c1, fi 64, fi 4096] w fun e w' => e = .returned (.bool true) ∧ Ext w w') := Lib.hid (fun w => by have := within_any c1 64 4096 w; rwa [h1] at this)
  have F2 : Hid (∀ w, Calls Tryz.prog 16 #[fi c2, fi 0, fi 20] w fun e w' => e = .returned (.bool false) ∧ Ext w w') := Lib.hid (fun w => by have := within_any c2 0 20 w; rwa [h2] at this)
  clear h0 h1 h2
  go_enter Tryz.func4, Tryz.ntmps4
  (try dsimp only); (repeat (first | (first | (go_at_call 16; (first | (with_reducible refine (F0.out _).mono ?_) | (with_reducible refine (F1.out _).mono ?_) | (with_reducible refine (F2.out _).mono ?_)); rintro _ w1 ⟨rfl, hX⟩; replace M := M.ext hX; clear hX; dsimp only) | ((with_reducible refine wl_g ?_); first | go_big_want | go_skip | ((with_reducible refine wl_off (by kernel_rfl) ?_); (first | ((with_reducible refine fastK Tryz.prog rfl ?_); go_big_move) | (with_reducible refine fastN rfl ?_) | skip))) | ((with_reducible refine on_load ?_); (first | refine xl1 M ?_ | refine xlN M ?_); go_big_move) | ((with_reducible refine on_store ?_); (first | refine xs1 M ?_ | refine xsN M ?_); clear M; intro w' M; (try simp only [List.set_cons_zero, List.set_cons_succ] at M)) | ((with_reducible refine on_box ?_); refine xb M ?_; clear M; intro g w' M; go_big_move) | ((with_reducible refine on_alloc ?_); refine xa M ?_; clear M; intro g w' M; go_big_move)) | go_values | go_skip | go_guarded | go_step | go_upon))
  exact ret_m1 rfl (Out.tmp rfl) rfl ⟨rfl, M.ext_of⟩
set_option maxRecDepth 100000 in
set_option maxHeartbeats 1000000 in
theorem check_3 (c0 c1 c2 c3 c4 c5 c6 c7 : Int) (h0 : (decide (64 ≤ c0) && decide (c0 ≤ 65536)) = true) (h1 : (decide (64 ≤ c1) && decide (c1 ≤ 4096)) = true) (h2 : (decide (0 ≤ c2) && decide (c2 ≤ 20)) = true) (h3 : (decide (256 ≤ c3) && decide (c3 ≤ 65536)) = false) (w : World) : Calls Tryz.prog 4 #[.agg #[fi c0, fi c1, fi c2, fi c3, fi c4, fi c5, fi c6, .int .u64 c7]] w fun e w' => e = .returned (fi 1) ∧ Ext w w' := by
  have M := Mem.start w
  have F0 : Hid (∀ w, Calls Tryz.prog 16 #[fi c0, fi 64, fi 65536] w fun e w' => e = .returned (.bool true) ∧ Ext w w') := Lib.hid (fun w => by have := within_any c0 64 65536 w; rwa [h0] at this)
  have F1 : Hid (∀ w, Calls Tryz.prog 16 #[fi c1, fi 64, fi 4096] w fun e w' => e = .returned (.bool true) ∧ Ext w w') := Lib.hid (fun w => by have := within_any c1 64 4096 w; rwa [h1] at this)
  have F2 : Hid (∀ w, Calls Tryz.prog 16 #[fi c2, fi 0, fi 20] w fun e w' => e = .returned (.bool true) ∧ Ext w w') := Lib.hid (fun w => by have := within_any c2 0 20 w; rwa [h2] at this)
  have F3 : Hid (∀ w, Calls Tryz.prog 16 #[fi c3, fi 256, fi 65536] w fun e w' => e = .returned (.bool false) ∧ Ext w w') := Lib.hid (fun w => by have := within_any c3 256 65536 w; rwa [h3] at this)
  clear h0 h1 h2 h3
  go_enter Tryz.func4, Tryz.ntmps4
  (try dsimp only); (repeat (first | (first | (go_at_call 16; (first | (with_reducible refine (F0.out _).mono ?_) | (with_reducible refine (F1.out _).mono ?_) | (with_reducible refine (F2.out _).mono ?_) | (with_reducible refine (F3.out _).mono ?_)); rintro _ w1 ⟨rfl, hX⟩; replace M := M.ext hX; clear hX; dsimp only) | ((with_reducible refine wl_g ?_); first | go_big_want | go_skip | ((with_reducible refine wl_off (by kernel_rfl) ?_); (first | ((with_reducible refine fastK Tryz.prog rfl ?_); go_big_move) | (with_reducible refine fastN rfl ?_) | skip))) | ((with_reducible refine on_load ?_); (first | refine xl1 M ?_ | refine xlN M ?_); go_big_move) | ((with_reducible refine on_store ?_); (first | refine xs1 M ?_ | refine xsN M ?_); clear M; intro w' M; (try simp only [List.set_cons_zero, List.set_cons_succ] at M)) | ((with_reducible refine on_box ?_); refine xb M ?_; clear M; intro g w' M; go_big_move) | ((with_reducible refine on_alloc ?_); refine xa M ?_; clear M; intro g w' M; go_big_move)) | go_values | go_skip | go_guarded | go_step | go_upon))
  exact ret_m1 rfl (Out.tmp rfl) rfl ⟨rfl, M.ext_of⟩
set_option maxRecDepth 100000 in
set_option maxHeartbeats 1000000 in
theorem check_4 (c0 c1 c2 c3 c4 c5 c6 c7 : Int) (h0 : (decide (64 ≤ c0) && decide (c0 ≤ 65536)) = true) (h1 : (decide (64 ≤ c1) && decide (c1 ≤ 4096)) = true) (h2 : (decide (0 ≤ c2) && decide (c2 ≤ 20)) = true) (h3 : (decide (256 ≤ c3) && decide (c3 ≤ 65536)) = true) (h4 : (decide (1 ≤ c4) && decide (c4 ≤ 8)) = false) (w : World) : Calls Tryz.prog 4 #[.agg #[fi c0, fi c1, fi c2, fi c3, fi c4, fi c5, fi c6, .int .u64 c7]] w fun e w' => e = .returned (fi 1) ∧ Ext w w' := by
  have M := Mem.start w
  have F0 : Hid (∀ w, Calls Tryz.prog 16 #[fi c0, fi 64, fi 65536] w fun e w' => e = .returned (.bool true) ∧ Ext w w') := Lib.hid (fun w => by have := within_any c0 64 65536 w; rwa [h0] at this)
  have F1 : Hid (∀ w, Calls Tryz.prog 16 #[fi c1, fi 64, fi 4096] w fun e w' => e = .returned (.bool true) ∧ Ext w w') := Lib.hid (fun w => by have := within_any c1 64 4096 w; rwa [h1] at this)
  have F2 : Hid (∀ w, Calls Tryz.prog 16 #[fi c2, fi 0, fi 20] w fun e w' => e = .returned (.bool true) ∧ Ext w w') := Lib.hid (fun w => by have := within_any c2 0 20 w; rwa [h2] at this)
  have F3 : Hid (∀ w, Calls Tryz.prog 16 #[fi c3, fi 256, fi 65536] w fun e w' => e = .returned (.bool true) ∧ Ext w w') := Lib.hid (fun w => by have := within_any c3 256 65536 w; rwa [h3] at this)
  have F4 : Hid (∀ w, Calls Tryz.prog 16 #[fi c4, fi 1, fi 8] w fun e w' => e = .returned (.bool false) ∧ Ext w w') := Lib.hid (fun w => by have := within_any c4 1 8 w; rwa [h4] at this)
  clear h0 h1 h2 h3 h4
  go_enter Tryz.func4, Tryz.ntmps4
  (try dsimp only); (repeat (first | (first | (go_at_call 16; (first | (with_reducible refine (F0.out _).mono ?_) | (with_reducible refine (F1.out _).mono ?_) | (with_reducible refine (F2.out _).mono ?_) | (with_reducible refine (F3.out _).mono ?_) | (with_reducible refine (F4.out _).mono ?_)); rintro _ w1 ⟨rfl, hX⟩; replace M := M.ext hX; clear hX; dsimp only) | ((with_reducible refine wl_g ?_); first | go_big_want | go_skip | ((with_reducible refine wl_off (by kernel_rfl) ?_); (first | ((with_reducible refine fastK Tryz.prog rfl ?_); go_big_move) | (with_reducible refine fastN rfl ?_) | skip))) | ((with_reducible refine on_load ?_); (first | refine xl1 M ?_ | refine xlN M ?_); go_big_move) | ((with_reducible refine on_store ?_); (first | refine xs1 M ?_ | refine xsN M ?_); clear M; intro w' M; (try simp only [List.set_cons_zero, List.set_cons_succ] at M)) | ((with_reducible refine on_box ?_); refine xb M ?_; clear M; intro g w' M; go_big_move) | ((with_reducible refine on_alloc ?_); refine xa M ?_; clear M; intro g w' M; go_big_move)) | go_values | go_skip | go_guarded | go_step | go_upon))
  exact ret_m1 rfl (Out.tmp rfl) rfl ⟨rfl, M.ext_of⟩
set_option maxRecDepth 100000 in
set_option maxHeartbeats 1000000 in
theorem check_5 (c0 c1 c2 c3 c4 c5 c6 c7 : Int) (h0 : (decide (64 ≤ c0) && decide (c0 ≤ 65536)) = true) (h1 : (decide (64 ≤ c1) && decide (c1 ≤ 4096)) = true) (h2 : (decide (0 ≤ c2) && decide (c2 ≤ 20)) = true) (h3 : (decide (256 ≤ c3) && decide (c3 ≤ 65536)) = true) (h4 : (decide (1 ≤ c4) && decide (c4 ≤ 8)) = true) (h5 : (decide (256 ≤ c5) && decide (c5 ≤ 1048576)) = false) (w : World) : Calls Tryz.prog 4 #[.agg #[fi c0, fi c1, fi c2, fi c3, fi c4, fi c5, fi c6, .int .u64 c7]] w fun e w' => e = .returned (fi 1) ∧ Ext w w' := by
  have M := Mem.start w
  have F0 : Hid (∀ w, Calls Tryz.prog 16 #[fi c0, fi 64, fi 65536] w fun e w' => e = .returned (.bool true) ∧ Ext w w') := Lib.hid (fun w => by have := within_any c0 64 65536 w; rwa [h0] at this)
  have F1 : Hid (∀ w, Calls Tryz.prog 16 #[fi c1, fi 64, fi 4096] w fun e w' => e = .returned (.bool true) ∧ Ext w w') := Lib.hid (fun w => by have := within_any c1 64 4096 w; rwa [h1] at this)
  have F2 : Hid (∀ w, Calls Tryz.prog 16 #[fi c2, fi 0, fi 20] w fun e w' => e = .returned (.bool true) ∧ Ext w w') := Lib.hid (fun w => by have := within_any c2 0 20 w; rwa [h2] at this)
  have F3 : Hid (∀ w, Calls Tryz.prog 16 #[fi c3, fi 256, fi 65536] w fun e w' => e = .returned (.bool true) ∧ Ext w w') := Lib.hid (fun w => by have := within_any c3 256 65536 w; rwa [h3] at this)
  have F4 : Hid (∀ w, Calls Tryz.prog 16 #[fi c4, fi 1, fi 8] w fun e w' => e = .returned (.bool true) ∧ Ext w w') := Lib.hid (fun w => by have := within_any c4 1 8 w; rwa [h4] at this)
  have F5 : Hid (∀ w, Calls Tryz.prog 16 #[fi c5, fi 256, fi 1048576] w fun e w' => e = .returned (.bool false) ∧ Ext w w') := Lib.hid (fun w => by have := within_any c5 256 1048576 w; rwa [h5] at this)
  clear h0 h1 h2 h3 h4 h5
  go_enter Tryz.func4, Tryz.ntmps4
  (try dsimp only); (repeat (first | (first | (go_at_call 16; (first | (with_reducible refine (F0.out _).mono ?_) | (with_reducible refine (F1.out _).mono ?_) | (with_reducible refine (F2.out _).mono ?_) | (with_reducible refine (F3.out _).mono ?_) | (with_reducible refine (F4.out _).mono ?_) | (with_reducible refine (F5.out _).mono ?_)); rintro _ w1 ⟨rfl, hX⟩; replace M := M.ext hX; clear hX; dsimp only) | ((with_reducible refine wl_g ?_); first | go_big_want | go_skip | ((with_reducible refine wl_off (by kernel_rfl) ?_); (first | ((with_reducible refine fastK Tryz.prog rfl ?_); go_big_move) | (with_reducible refine fastN rfl ?_) | skip))) | ((with_reducible refine on_load ?_); (first | refine xl1 M ?_ | refine xlN M ?_); go_big_move) | ((with_reducible refine on_store ?_); (first | refine xs1 M ?_ | refine xsN M ?_); clear M; intro w' M; (try simp only [List.set_cons_zero, List.set_cons_succ] at M)) | ((with_reducible refine on_box ?_); refine xb M ?_; clear M; intro g w' M; go_big_move) | ((with_reducible refine on_alloc ?_); refine xa M ?_; clear M; intro g w' M; go_big_move)) | go_values | go_skip | go_guarded | go_step | go_upon))
  exact ret_m1 rfl (Out.tmp rfl) rfl ⟨rfl, M.ext_of⟩
set_option maxRecDepth 100000 in
set_option maxHeartbeats 1000000 in
theorem check_6 (c0 c1 c2 c3 c4 c5 c6 c7 : Int) (h0 : (decide (64 ≤ c0) && decide (c0 ≤ 65536)) = true) (h1 : (decide (64 ≤ c1) && decide (c1 ≤ 4096)) = true) (h2 : (decide (0 ≤ c2) && decide (c2 ≤ 20)) = true) (h3 : (decide (256 ≤ c3) && decide (c3 ≤ 65536)) = true) (h4 : (decide (1 ≤ c4) && decide (c4 ≤ 8)) = true) (h5 : (decide (256 ≤ c5) && decide (c5 ≤ 1048576)) = true) (h6 : (decide (1 ≤ c6) && decide (c6 ≤ 1000)) = false) (w : World) : Calls Tryz.prog 4 #[.agg #[fi c0, fi c1, fi c2, fi c3, fi c4, fi c5, fi c6, .int .u64 c7]] w fun e w' => e = .returned (fi 1) ∧ Ext w w' := by
  have M := Mem.start w
  have F0 : Hid (∀ w, Calls Tryz.prog 16 #[fi c0, fi 64, fi 65536] w fun e w' => e = .returned (.bool true) ∧ Ext w w') := Lib.hid (fun w => by have := within_any c0 64 65536 w; rwa [h0] at this)
  have F1 : Hid (∀ w, Calls Tryz.prog 16 #[fi c1, fi 64, fi 4096] w fun e w' => e = .returned (.bool true) ∧ Ext w w') := Lib.hid (fun w => by have := within_any c1 64 4096 w; rwa [h1] at this)
  have F2 : Hid (∀ w, Calls Tryz.prog 16 #[fi c2, fi 0, fi 20] w fun e w' => e = .returned (.bool true) ∧ Ext w w') := Lib.hid (fun w => by have := within_any c2 0 20 w; rwa [h2] at this)
  have F3 : Hid (∀ w, Calls Tryz.prog 16 #[fi c3, fi 256, fi 65536] w fun e w' => e = .returned (.bool true) ∧ Ext w w') := Lib.hid (fun w => by have := within_any c3 256 65536 w; rwa [h3] at this)
  have F4 : Hid (∀ w, Calls Tryz.prog 16 #[fi c4, fi 1, fi 8] w fun e w' => e = .returned (.bool true) ∧ Ext w w') := Lib.hid (fun w => by have := within_any c4 1 8 w; rwa [h4] at this)
  have F5 : Hid (∀ w, Calls Tryz.prog 16 #[fi c5, fi 256, fi 1048576] w fun e w' => e = .returned (.bool true) ∧ Ext w w') := Lib.hid (fun w => by have := within_any c5 256 1048576 w; rwa [h5] at this)
  have F6 : Hid (∀ w, Calls Tryz.prog 16 #[fi c6, fi 1, fi 1000] w fun e w' => e = .returned (.bool false) ∧ Ext w w') := Lib.hid (fun w => by have := within_any c6 1 1000 w; rwa [h6] at this)
  clear h0 h1 h2 h3 h4 h5 h6
  go_enter Tryz.func4, Tryz.ntmps4
  (try dsimp only); (repeat (first | (first | (go_at_call 16; (first | (with_reducible refine (F0.out _).mono ?_) | (with_reducible refine (F1.out _).mono ?_) | (with_reducible refine (F2.out _).mono ?_) | (with_reducible refine (F3.out _).mono ?_) | (with_reducible refine (F4.out _).mono ?_) | (with_reducible refine (F5.out _).mono ?_) | (with_reducible refine (F6.out _).mono ?_)); rintro _ w1 ⟨rfl, hX⟩; replace M := M.ext hX; clear hX; dsimp only) | ((with_reducible refine wl_g ?_); first | go_big_want | go_skip | ((with_reducible refine wl_off (by kernel_rfl) ?_); (first | ((with_reducible refine fastK Tryz.prog rfl ?_); go_big_move) | (with_reducible refine fastN rfl ?_) | skip))) | ((with_reducible refine on_load ?_); (first | refine xl1 M ?_ | refine xlN M ?_); go_big_move) | ((with_reducible refine on_store ?_); (first | refine xs1 M ?_ | refine xsN M ?_); clear M; intro w' M; (try simp only [List.set_cons_zero, List.set_cons_succ] at M)) | ((with_reducible refine on_box ?_); refine xb M ?_; clear M; intro g w' M; go_big_move) | ((with_reducible refine on_alloc ?_); refine xa M ?_; clear M; intro g w' M; go_big_move)) | go_values | go_skip | go_guarded | go_step | go_upon))
  exact ret_m1 rfl (Out.tmp rfl) rfl ⟨rfl, M.ext_of⟩
set_option maxRecDepth 100000 in
set_option maxHeartbeats 1000000 in
theorem check_7 (c0 c1 c2 c3 c4 c5 c6 c7 : Int) (h0 : (decide (64 ≤ c0) && decide (c0 ≤ 65536)) = true) (h1 : (decide (64 ≤ c1) && decide (c1 ≤ 4096)) = true) (h2 : (decide (0 ≤ c2) && decide (c2 ≤ 20)) = true) (h3 : (decide (256 ≤ c3) && decide (c3 ≤ 65536)) = true) (h4 : (decide (1 ≤ c4) && decide (c4 ≤ 8)) = true) (h5 : (decide (256 ≤ c5) && decide (c5 ≤ 1048576)) = true) (h6 : (decide (1 ≤ c6) && decide (c6 ≤ 1000)) = true) (w : World) : Calls Tryz.prog 4 #[.agg #[fi c0, fi c1, fi c2, fi c3, fi c4, fi c5, fi c6, .int .u64 c7]] w fun e w' => e = .returned (fi 0) ∧ Ext w w' := by
  have M := Mem.start w
  have F0 : Hid (∀ w, Calls Tryz.prog 16 #[fi c0, fi 64, fi 65536] w fun e w' => e = .returned (.bool true) ∧ Ext w w') := Lib.hid (fun w => by have := within_any c0 64 65536 w; rwa [h0] at this)
  have F1 : Hid (∀ w, Calls Tryz.prog 16 #[fi c1, fi 64, fi 4096] w fun e w' => e = .returned (.bool true) ∧ Ext w w') := Lib.hid (fun w => by have := within_any c1 64 4096 w; rwa [h1] at this)
  have F2 : Hid (∀ w, Calls Tryz.prog 16 #[fi c2, fi 0, fi 20] w fun e w' => e = .returned (.bool true) ∧ Ext w w') := Lib.hid (fun w => by have := within_any c2 0 20 w; rwa [h2] at this)
  have F3 : Hid (∀ w, Calls Tryz.prog 16 #[fi c3, fi 256, fi 65536] w fun e w' => e = .returned (.bool true) ∧ Ext w w') := Lib.hid (fun w => by have := within_any c3 256 65536 w; rwa [h3] at this)
  have F4 : Hid (∀ w, Calls Tryz.prog 16 #[fi c4, fi 1, fi 8] w fun e w' => e = .returned (.bool true) ∧ Ext w w') := Lib.hid (fun w => by have := within_any c4 1 8 w; rwa [h4] at this)
  have F5 : Hid (∀ w, Calls Tryz.prog 16 #[fi c5, fi 256, fi 1048576] w fun e w' => e = .returned (.bool true) ∧ Ext w w') := Lib.hid (fun w => by have := within_any c5 256 1048576 w; rwa [h5] at this)
  have F6 : Hid (∀ w, Calls Tryz.prog 16 #[fi c6, fi 1, fi 1000] w fun e w' => e = .returned (.bool true) ∧ Ext w w') := Lib.hid (fun w => by have := within_any c6 1 1000 w; rwa [h6] at this)
  clear h0 h1 h2 h3 h4 h5 h6
  go_enter Tryz.func4, Tryz.ntmps4
  (try dsimp only); (repeat (first | (first | (go_at_call 16; (first | (with_reducible refine (F0.out _).mono ?_) | (with_reducible refine (F1.out _).mono ?_) | (with_reducible refine (F2.out _).mono ?_) | (with_reducible refine (F3.out _).mono ?_) | (with_reducible refine (F4.out _).mono ?_) | (with_reducible refine (F5.out _).mono ?_) | (with_reducible refine (F6.out _).mono ?_)); rintro _ w1 ⟨rfl, hX⟩; replace M := M.ext hX; clear hX; dsimp only) | ((with_reducible refine wl_g ?_); first | go_big_want | go_skip | ((with_reducible refine wl_off (by kernel_rfl) ?_); (first | ((with_reducible refine fastK Tryz.prog rfl ?_); go_big_move) | (with_reducible refine fastN rfl ?_) | skip))) | ((with_reducible refine on_load ?_); (first | refine xl1 M ?_ | refine xlN M ?_); go_big_move) | ((with_reducible refine on_store ?_); (first | refine xs1 M ?_ | refine xsN M ?_); clear M; intro w' M; (try simp only [List.set_cons_zero, List.set_cons_succ] at M)) | ((with_reducible refine on_box ?_); refine xb M ?_; clear M; intro g w' M; go_big_move) | ((with_reducible refine on_alloc ?_); refine xa M ?_; clear M; intro g w' M; go_big_move)) | go_values | go_skip | go_guarded | go_step | go_upon))
  exact ret_m1 rfl (Out.tmp rfl) rfl ⟨rfl, M.ext_of⟩
set_option maxRecDepth 100000 in
set_option maxHeartbeats 1000000 in
theorem right_0 (c0 c1 c2 c3 c4 c5 c6 c7 : Int) (q0 : decide (64 ≤ c0) = false) (w : World) : Calls Tryz.prog 5 #[.agg #[fi c0, fi c1, fi c2, fi c3, fi c4, fi c5, fi c6, .int .u64 c7]] w fun e w' => e = .returned (.bool false) ∧ Ext w w' := by
  have M := Mem.start w
  go_enter Tryz.func5, Tryz.ntmps5
  (try dsimp only); (repeat (first | (first | (with_reducible refine wl_app ?_) | (with_reducible refine wl_app0 ?_) | ((with_reducible refine wl_g ?_); first | (refine wl_on rfl ?_) | ((refine wl_off rfl ?_); (first | ((with_reducible refine fastK Tryz.prog rfl ?_); go_big_move) | (with_reducible refine fastN rfl ?_) | skip))) | ((with_reducible refine on_load ?_); (first | refine xl1 M ?_ | refine xlN M ?_); go_big_move) | ((with_reducible refine on_store ?_); (first | refine xs1 M ?_ | refine xsN M ?_); clear M; intro w' M; (try simp only [List.set_cons_zero, List.set_cons_succ] at M)) | ((with_reducible refine on_box ?_); refine xb M ?_; clear M; intro g w' M; go_big_move) | ((with_reducible refine on_alloc ?_); refine xa M ?_; clear M; intro g w' M; go_big_move)) | go_values | go_skip | go_guarded | go_step | go_upon))
  exact ret_m1 rfl (Out.tmp rfl) rfl ⟨rfl, M.ext_of⟩
set_option maxRecDepth 100000 in
set_option maxHeartbeats 1000000 in
theorem right_1 (c0 c1 c2 c3 c4 c5 c6 c7 : Int) (q0 : decide (64 ≤ c0) = true) (q1 : decide (c0 ≤ 65536) = false) (w : World) : Calls Tryz.prog 5 #[.agg #[fi c0, fi c1, fi c2, fi c3, fi c4, fi c5, fi c6, .int .u64 c7]] w fun e w' => e = .returned (.bool false) ∧ Ext w w' := by
  have M := Mem.start w
  go_enter Tryz.func5, Tryz.ntmps5
  (try dsimp only); (repeat (first | (first | (with_reducible refine wl_app ?_) | (with_reducible refine wl_app0 ?_) | ((with_reducible refine wl_g ?_); first | (refine wl_on rfl ?_) | ((refine wl_off rfl ?_); (first | ((with_reducible refine fastK Tryz.prog rfl ?_); go_big_move) | (with_reducible refine fastN rfl ?_) | skip))) | ((with_reducible refine on_load ?_); (first | refine xl1 M ?_ | refine xlN M ?_); go_big_move) | ((with_reducible refine on_store ?_); (first | refine xs1 M ?_ | refine xsN M ?_); clear M; intro w' M; (try simp only [List.set_cons_zero, List.set_cons_succ] at M)) | ((with_reducible refine on_box ?_); refine xb M ?_; clear M; intro g w' M; go_big_move) | ((with_reducible refine on_alloc ?_); refine xa M ?_; clear M; intro g w' M; go_big_move)) | go_values | go_skip | go_guarded | go_step | go_upon))
  exact ret_m1 rfl (Out.tmp rfl) rfl ⟨rfl, M.ext_of⟩
set_option maxRecDepth 100000 in
set_option maxHeartbeats 1000000 in
theorem right_2 (c0 c1 c2 c3 c4 c5 c6 c7 : Int) (q0 : decide (64 ≤ c0) = true) (q1 : decide (c0 ≤ 65536) = true) (q2 : decide (64 ≤ c1) = false) (w : World) : Calls Tryz.prog 5 #[.agg #[fi c0, fi c1, fi c2, fi c3, fi c4, fi c5, fi c6, .int .u64 c7]] w fun e w' => e = .returned (.bool false) ∧ Ext w w' := by
  have M := Mem.start w
  go_enter Tryz.func5, Tryz.ntmps5
  (try dsimp only); (repeat (first | (first | (with_reducible refine wl_app ?_) | (with_reducible refine wl_app0 ?_) | ((with_reducible refine wl_g ?_); first | (refine wl_on rfl ?_) | ((refine wl_off rfl ?_); (first | ((with_reducible refine fastK Tryz.prog rfl ?_); go_big_move) | (with_reducible refine fastN rfl ?_) | skip))) | ((with_reducible refine on_load ?_); (first | refine xl1 M ?_ | refine xlN M ?_); go_big_move) | ((with_reducible refine on_store ?_); (first | refine xs1 M ?_ | refine xsN M ?_); clear M; intro w' M; (try simp only [List.set_cons_zero, List.set_cons_succ] at M)) | ((with_reducible refine on_box ?_); refine xb M ?_; clear M; intro g w' M; go_big_move) | ((with_reducible refine on_alloc ?_); refine xa M ?_; clear M; intro g w' M; go_big_move)) | go_values | go_skip | go_guarded | go_step | go_upon))
  exact ret_m1 rfl (Out.tmp rfl) rfl ⟨rfl, M.ext_of⟩
set_option maxRecDepth 100000 in
set_option maxHeartbeats 1000000 in
theorem right_3 (c0 c1 c2 c3 c4 c5 c6 c7 : Int) (q0 : decide (64 ≤ c0) = true) (q1 : decide (c0 ≤ 65536) = true) (q2 : decide (64 ≤ c1) = true) (q3 : decide (c1 ≤ 4096) = false) (w : World) : Calls Tryz.prog 5 #[.agg #[fi c0, fi c1, fi c2, fi c3, fi c4, fi c5, fi c6, .int .u64 c7]] w fun e w' => e = .returned (.bool false) ∧ Ext w w' := by
  have M := Mem.start w
  go_enter Tryz.func5, Tryz.ntmps5
  (try dsimp only); (repeat (first | (first | (with_reducible refine wl_app ?_) | (with_reducible refine wl_app0 ?_) | ((with_reducible refine wl_g ?_); first | (refine wl_on rfl ?_) | ((refine wl_off rfl ?_); (first | ((with_reducible refine fastK Tryz.prog rfl ?_); go_big_move) | (with_reducible refine fastN rfl ?_) | skip))) | ((with_reducible refine on_load ?_); (first | refine xl1 M ?_ | refine xlN M ?_); go_big_move) | ((with_reducible refine on_store ?_); (first | refine xs1 M ?_ | refine xsN M ?_); clear M; intro w' M; (try simp only [List.set_cons_zero, List.set_cons_succ] at M)) | ((with_reducible refine on_box ?_); refine xb M ?_; clear M; intro g w' M; go_big_move) | ((with_reducible refine on_alloc ?_); refine xa M ?_; clear M; intro g w' M; go_big_move)) | go_values | go_skip | go_guarded | go_step | go_upon))
  exact ret_m1 rfl (Out.tmp rfl) rfl ⟨rfl, M.ext_of⟩
set_option maxRecDepth 100000 in
set_option maxHeartbeats 1000000 in
theorem right_4 (c0 c1 c2 c3 c4 c5 c6 c7 : Int) (q0 : decide (64 ≤ c0) = true) (q1 : decide (c0 ≤ 65536) = true) (q2 : decide (64 ≤ c1) = true) (q3 : decide (c1 ≤ 4096) = true) (q4 : decide (0 ≤ c2) = false) (w : World) : Calls Tryz.prog 5 #[.agg #[fi c0, fi c1, fi c2, fi c3, fi c4, fi c5, fi c6, .int .u64 c7]] w fun e w' => e = .returned (.bool false) ∧ Ext w w' := by
  have M := Mem.start w
  go_enter Tryz.func5, Tryz.ntmps5
  (try dsimp only); (repeat (first | (first | (with_reducible refine wl_app ?_) | (with_reducible refine wl_app0 ?_) | ((with_reducible refine wl_g ?_); first | (refine wl_on rfl ?_) | ((refine wl_off rfl ?_); (first | ((with_reducible refine fastK Tryz.prog rfl ?_); go_big_move) | (with_reducible refine fastN rfl ?_) | skip))) | ((with_reducible refine on_load ?_); (first | refine xl1 M ?_ | refine xlN M ?_); go_big_move) | ((with_reducible refine on_store ?_); (first | refine xs1 M ?_ | refine xsN M ?_); clear M; intro w' M; (try simp only [List.set_cons_zero, List.set_cons_succ] at M)) | ((with_reducible refine on_box ?_); refine xb M ?_; clear M; intro g w' M; go_big_move) | ((with_reducible refine on_alloc ?_); refine xa M ?_; clear M; intro g w' M; go_big_move)) | go_values | go_skip | go_guarded | go_step | go_upon))
  exact ret_m1 rfl (Out.tmp rfl) rfl ⟨rfl, M.ext_of⟩
set_option maxRecDepth 100000 in
set_option maxHeartbeats 1000000 in
theorem right_5 (c0 c1 c2 c3 c4 c5 c6 c7 : Int) (q0 : decide (64 ≤ c0) = true) (q1 : decide (c0 ≤ 65536) = true) (q2 : decide (64 ≤ c1) = true) (q3 : decide (c1 ≤ 4096) = true) (q4 : decide (0 ≤ c2) = true) (q5 : decide (c2 ≤ 20) = false) (w : World) : Calls Tryz.prog 5 #[.agg #[fi c0, fi c1, fi c2, fi c3, fi c4, fi c5, fi c6, .int .u64 c7]] w fun e w' => e = .returned (.bool false) ∧ Ext w w' := by
  have M := Mem.start w
  go_enter Tryz.func5, Tryz.ntmps5
  (try dsimp only); (repeat (first | (first | (with_reducible refine wl_app ?_) | (with_reducible refine wl_app0 ?_) | ((with_reducible refine wl_g ?_); first | (refine wl_on rfl ?_) | ((refine wl_off rfl ?_); (first | ((with_reducible refine fastK Tryz.prog rfl ?_); go_big_move) | (with_reducible refine fastN rfl ?_) | skip))) | ((with_reducible refine on_load ?_); (first | refine xl1 M ?_ | refine xlN M ?_); go_big_move) | ((with_reducible refine on_store ?_); (first | refine xs1 M ?_ | refine xsN M ?_); clear M; intro w' M; (try simp only [List.set_cons_zero, List.set_cons_succ] at M)) | ((with_reducible refine on_box ?_); refine xb M ?_; clear M; intro g w' M; go_big_move) | ((with_reducible refine on_alloc ?_); refine xa M ?_; clear M; intro g w' M; go_big_move)) | go_values | go_skip | go_guarded | go_step | go_upon))
  exact ret_m1 rfl (Out.tmp rfl) rfl ⟨rfl, M.ext_of⟩
set_option maxRecDepth 100000 in
set_option maxHeartbeats 1000000 in
theorem right_6 (c0 c1 c2 c3 c4 c5 c6 c7 : Int) (q0 : decide (64 ≤ c0) = true) (q1 : decide (c0 ≤ 65536) = true) (q2 : decide (64 ≤ c1) = true) (q3 : decide (c1 ≤ 4096) = true) (q4 : decide (0 ≤ c2) = true) (q5 : decide (c2 ≤ 20) = true) (q6 : decide (256 ≤ c3) = false) (w : World) : Calls Tryz.prog 5 #[.agg #[fi c0, fi c1, fi c2, fi c3, fi c4, fi c5, fi c6, .int .u64 c7]] w fun e w' => e = .returned (.bool false) ∧ Ext w w' := by
  have M := Mem.start w
  go_enter Tryz.func5, Tryz.ntmps5
  (try dsimp only); (repeat (first | (first | (with_reducible refine wl_app ?_) | (with_reducible refine wl_app0 ?_) | ((with_reducible refine wl_g ?_); first | (refine wl_on rfl ?_) | ((refine wl_off rfl ?_); (first | ((with_reducible refine fastK Tryz.prog rfl ?_); go_big_move) | (with_reducible refine fastN rfl ?_) | skip))) | ((with_reducible refine on_load ?_); (first | refine xl1 M ?_ | refine xlN M ?_); go_big_move) | ((with_reducible refine on_store ?_); (first | refine xs1 M ?_ | refine xsN M ?_); clear M; intro w' M; (try simp only [List.set_cons_zero, List.set_cons_succ] at M)) | ((with_reducible refine on_box ?_); refine xb M ?_; clear M; intro g w' M; go_big_move) | ((with_reducible refine on_alloc ?_); refine xa M ?_; clear M; intro g w' M; go_big_move)) | go_values | go_skip | go_guarded | go_step | go_upon))
  exact ret_m1 rfl (Out.tmp rfl) rfl ⟨rfl, M.ext_of⟩
set_option maxRecDepth 100000 in
set_option maxHeartbeats 1000000 in
theorem right_7 (c0 c1 c2 c3 c4 c5 c6 c7 : Int) (q0 : decide (64 ≤ c0) = true) (q1 : decide (c0 ≤ 65536) = true) (q2 : decide (64 ≤ c1) = true) (q3 : decide (c1 ≤ 4096) = true) (q4 : decide (0 ≤ c2) = true) (q5 : decide (c2 ≤ 20) = true) (q6 : decide (256 ≤ c3) = true) (q7 : decide (c3 ≤ 65536) = false) (w : World) : Calls Tryz.prog 5 #[.agg #[fi c0, fi c1, fi c2, fi c3, fi c4, fi c5, fi c6, .int .u64 c7]] w fun e w' => e = .returned (.bool false) ∧ Ext w w' := by
  have M := Mem.start w
  go_enter Tryz.func5, Tryz.ntmps5
  (try dsimp only); (repeat (first | (first | (with_reducible refine wl_app ?_) | (with_reducible refine wl_app0 ?_) | ((with_reducible refine wl_g ?_); first | (refine wl_on rfl ?_) | ((refine wl_off rfl ?_); (first | ((with_reducible refine fastK Tryz.prog rfl ?_); go_big_move) | (with_reducible refine fastN rfl ?_) | skip))) | ((with_reducible refine on_load ?_); (first | refine xl1 M ?_ | refine xlN M ?_); go_big_move) | ((with_reducible refine on_store ?_); (first | refine xs1 M ?_ | refine xsN M ?_); clear M; intro w' M; (try simp only [List.set_cons_zero, List.set_cons_succ] at M)) | ((with_reducible refine on_box ?_); refine xb M ?_; clear M; intro g w' M; go_big_move) | ((with_reducible refine on_alloc ?_); refine xa M ?_; clear M; intro g w' M; go_big_move)) | go_values | go_skip | go_guarded | go_step | go_upon))
  exact ret_m1 rfl (Out.tmp rfl) rfl ⟨rfl, M.ext_of⟩
set_option maxRecDepth 100000 in
set_option maxHeartbeats 1000000 in
theorem right_8 (c0 c1 c2 c3 c4 c5 c6 c7 : Int) (q0 : decide (64 ≤ c0) = true) (q1 : decide (c0 ≤ 65536) = true) (q2 : decide (64 ≤ c1) = true) (q3 : decide (c1 ≤ 4096) = true) (q4 : decide (0 ≤ c2) = true) (q5 : decide (c2 ≤ 20) = true) (q6 : decide (256 ≤ c3) = true) (q7 : decide (c3 ≤ 65536) = true) (q8 : decide (1 ≤ c4) = false) (w : World) : Calls Tryz.prog 5 #[.agg #[fi c0, fi c1, fi c2, fi c3, fi c4, fi c5, fi c6, .int .u64 c7]] w fun e w' => e = .returned (.bool false) ∧ Ext w w' := by
  have M := Mem.start w
  go_enter Tryz.func5, Tryz.ntmps5
  (try dsimp only); (repeat (first | (first | (with_reducible refine wl_app ?_) | (with_reducible refine wl_app0 ?_) | ((with_reducible refine wl_g ?_); first | (refine wl_on rfl ?_) | ((refine wl_off rfl ?_); (first | ((with_reducible refine fastK Tryz.prog rfl ?_); go_big_move) | (with_reducible refine fastN rfl ?_) | skip))) | ((with_reducible refine on_load ?_); (first | refine xl1 M ?_ | refine xlN M ?_); go_big_move) | ((with_reducible refine on_store ?_); (first | refine xs1 M ?_ | refine xsN M ?_); clear M; intro w' M; (try simp only [List.set_cons_zero, List.set_cons_succ] at M)) | ((with_reducible refine on_box ?_); refine xb M ?_; clear M; intro g w' M; go_big_move) | ((with_reducible refine on_alloc ?_); refine xa M ?_; clear M; intro g w' M; go_big_move)) | go_values | go_skip | go_guarded | go_step | go_upon))
  exact ret_m1 rfl (Out.tmp rfl) rfl ⟨rfl, M.ext_of⟩
set_option maxRecDepth 100000 in
set_option maxHeartbeats 1000000 in
theorem right_9 (c0 c1 c2 c3 c4 c5 c6 c7 : Int) (q0 : decide (64 ≤ c0) = true) (q1 : decide (c0 ≤ 65536) = true) (q2 : decide (64 ≤ c1) = true) (q3 : decide (c1 ≤ 4096) = true) (q4 : decide (0 ≤ c2) = true) (q5 : decide (c2 ≤ 20) = true) (q6 : decide (256 ≤ c3) = true) (q7 : decide (c3 ≤ 65536) = true) (q8 : decide (1 ≤ c4) = true) (q9 : decide (c4 ≤ 8) = false) (w : World) : Calls Tryz.prog 5 #[.agg #[fi c0, fi c1, fi c2, fi c3, fi c4, fi c5, fi c6, .int .u64 c7]] w fun e w' => e = .returned (.bool false) ∧ Ext w w' := by
  have M := Mem.start w
  go_enter Tryz.func5, Tryz.ntmps5
  (try dsimp only); (repeat (first | (first | (with_reducible refine wl_app ?_) | (with_reducible refine wl_app0 ?_) | ((with_reducible refine wl_g ?_); first | (refine wl_on rfl ?_) | ((refine wl_off rfl ?_); (first | ((with_reducible refine fastK Tryz.prog rfl ?_); go_big_move) | (with_reducible refine fastN rfl ?_) | skip))) | ((with_reducible refine on_load ?_); (first | refine xl1 M ?_ | refine xlN M ?_); go_big_move) | ((with_reducible refine on_store ?_); (first | refine xs1 M ?_ | refine xsN M ?_); clear M; intro w' M; (try simp only [List.set_cons_zero, List.set_cons_succ] at M)) | ((with_reducible refine on_box ?_); refine xb M ?_; clear M; intro g w' M; go_big_move) | ((with_reducible refine on_alloc ?_); refine xa M ?_; clear M; intro g w' M; go_big_move)) | go_values | go_skip | go_guarded | go_step | go_upon))
  exact ret_m1 rfl (Out.tmp rfl) rfl ⟨rfl, M.ext_of⟩
set_option maxRecDepth 100000 in
set_option maxHeartbeats 1000000 in
theorem right_10 (c0 c1 c2 c3 c4 c5 c6 c7 : Int) (q0 : decide (64 ≤ c0) = true) (q1 : decide (c0 ≤ 65536) = true) (q2 : decide (64 ≤ c1) = true) (q3 : decide (c1 ≤ 4096) = true) (q4 : decide (0 ≤ c2) = true) (q5 : decide (c2 ≤ 20) = true) (q6 : decide (256 ≤ c3) = true) (q7 : decide (c3 ≤ 65536) = true) (q8 : decide (1 ≤ c4) = true) (q9 : decide (c4 ≤ 8) = true) (q10 : decide (256 ≤ c5) = false) (w : World) : Calls Tryz.prog 5 #[.agg #[fi c0, fi c1, fi c2, fi c3, fi c4, fi c5, fi c6, .int .u64 c7]] w fun e w' => e = .returned (.bool false) ∧ Ext w w' := by
  have M := Mem.start w
  go_enter Tryz.func5, Tryz.ntmps5
  (try dsimp only); (repeat (first | (first | (with_reducible refine wl_app ?_) | (with_reducible refine wl_app0 ?_) | ((with_reducible refine wl_g ?_); first | (refine wl_on rfl ?_) | ((refine wl_off rfl ?_); (first | ((with_reducible refine fastK Tryz.prog rfl ?_); go_big_move) | (with_reducible refine fastN rfl ?_) | skip))) | ((with_reducible refine on_load ?_); (first | refine xl1 M ?_ | refine xlN M ?_); go_big_move) | ((with_reducible refine on_store ?_); (first | refine xs1 M ?_ | refine xsN M ?_); clear M; intro w' M; (try simp only [List.set_cons_zero, List.set_cons_succ] at M)) | ((with_reducible refine on_box ?_); refine xb M ?_; clear M; intro g w' M; go_big_move) | ((with_reducible refine on_alloc ?_); refine xa M ?_; clear M; intro g w' M; go_big_move)) | go_values | go_skip | go_guarded | go_step | go_upon))
  exact ret_m1 rfl (Out.tmp rfl) rfl ⟨rfl, M.ext_of⟩
set_option maxRecDepth 100000 in
set_option maxHeartbeats 1000000 in
theorem right_11 (c0 c1 c2 c3 c4 c5 c6 c7 : Int) (q0 : decide (64 ≤ c0) = true) (q1 : decide (c0 ≤ 65536) = true) (q2 : decide (64 ≤ c1) = true) (q3 : decide (c1 ≤ 4096) = true) (q4 : decide (0 ≤ c2) = true) (q5 : decide (c2 ≤ 20) = true) (q6 : decide (256 ≤ c3) = true) (q7 : decide (c3 ≤ 65536) = true) (q8 : decide (1 ≤ c4) = true) (q9 : decide (c4 ≤ 8) = true) (q10 : decide (256 ≤ c5) = true) (q11 : decide (c5 ≤ 1048576) = false) (w : World) : Calls Tryz.prog 5 #[.agg #[fi c0, fi c1, fi c2, fi c3, fi c4, fi c5, fi c6, .int .u64 c7]] w fun e w' => e = .returned (.bool false) ∧ Ext w w' := by
  have M := Mem.start w
  go_enter Tryz.func5, Tryz.ntmps5
  (try dsimp only); (repeat (first | (first | (with_reducible refine wl_app ?_) | (with_reducible refine wl_app0 ?_) | ((with_reducible refine wl_g ?_); first | (refine wl_on rfl ?_) | ((refine wl_off rfl ?_); (first | ((with_reducible refine fastK Tryz.prog rfl ?_); go_big_move) | (with_reducible refine fastN rfl ?_) | skip))) | ((with_reducible refine on_load ?_); (first | refine xl1 M ?_ | refine xlN M ?_); go_big_move) | ((with_reducible refine on_store ?_); (first | refine xs1 M ?_ | refine xsN M ?_); clear M; intro w' M; (try simp only [List.set_cons_zero, List.set_cons_succ] at M)) | ((with_reducible refine on_box ?_); refine xb M ?_; clear M; intro g w' M; go_big_move) | ((with_reducible refine on_alloc ?_); refine xa M ?_; clear M; intro g w' M; go_big_move)) | go_values | go_skip | go_guarded | go_step | go_upon))
  exact ret_m1 rfl (Out.tmp rfl) rfl ⟨rfl, M.ext_of⟩
set_option maxRecDepth 100000 in
set_option maxHeartbeats 1000000 in
theorem right_12 (c0 c1 c2 c3 c4 c5 c6 c7 : Int) (q0 : decide (64 ≤ c0) = true) (q1 : decide (c0 ≤ 65536) = true) (q2 : decide (64 ≤ c1) = true) (q3 : decide (c1 ≤ 4096) = true) (q4 : decide (0 ≤ c2) = true) (q5 : decide (c2 ≤ 20) = true) (q6 : decide (256 ≤ c3) = true) (q7 : decide (c3 ≤ 65536) = true) (q8 : decide (1 ≤ c4) = true) (q9 : decide (c4 ≤ 8) = true) (q10 : decide (256 ≤ c5) = true) (q11 : decide (c5 ≤ 1048576) = true) (q12 : decide (1 ≤ c6) = false) (w : World) : Calls Tryz.prog 5 #[.agg #[fi c0, fi c1, fi c2, fi c3, fi c4, fi c5, fi c6, .int .u64 c7]] w fun e w' => e = .returned (.bool false) ∧ Ext w w' := by
  have M := Mem.start w
  go_enter Tryz.func5, Tryz.ntmps5
  (try dsimp only); (repeat (first | (first | (with_reducible refine wl_app ?_) | (with_reducible refine wl_app0 ?_) | ((with_reducible refine wl_g ?_); first | (refine wl_on rfl ?_) | ((refine wl_off rfl ?_); (first | ((with_reducible refine fastK Tryz.prog rfl ?_); go_big_move) | (with_reducible refine fastN rfl ?_) | skip))) | ((with_reducible refine on_load ?_); (first | refine xl1 M ?_ | refine xlN M ?_); go_big_move) | ((with_reducible refine on_store ?_); (first | refine xs1 M ?_ | refine xsN M ?_); clear M; intro w' M; (try simp only [List.set_cons_zero, List.set_cons_succ] at M)) | ((with_reducible refine on_box ?_); refine xb M ?_; clear M; intro g w' M; go_big_move) | ((with_reducible refine on_alloc ?_); refine xa M ?_; clear M; intro g w' M; go_big_move)) | go_values | go_skip | go_guarded | go_step | go_upon))
  exact ret_m1 rfl (Out.tmp rfl) rfl ⟨rfl, M.ext_of⟩
set_option maxRecDepth 100000 in
set_option maxHeartbeats 1000000 in
theorem right_13 (c0 c1 c2 c3 c4 c5 c6 c7 : Int) (q0 : decide (64 ≤ c0) = true) (q1 : decide (c0 ≤ 65536) = true) (q2 : decide (64 ≤ c1) = true) (q3 : decide (c1 ≤ 4096) = true) (q4 : decide (0 ≤ c2) = true) (q5 : decide (c2 ≤ 20) = true) (q6 : decide (256 ≤ c3) = true) (q7 : decide (c3 ≤ 65536) = true) (q8 : decide (1 ≤ c4) = true) (q9 : decide (c4 ≤ 8) = true) (q10 : decide (256 ≤ c5) = true) (q11 : decide (c5 ≤ 1048576) = true) (q12 : decide (1 ≤ c6) = true) (q13 : decide (c6 ≤ 1000) = false) (w : World) : Calls Tryz.prog 5 #[.agg #[fi c0, fi c1, fi c2, fi c3, fi c4, fi c5, fi c6, .int .u64 c7]] w fun e w' => e = .returned (.bool false) ∧ Ext w w' := by
  have M := Mem.start w
  go_enter Tryz.func5, Tryz.ntmps5
  (try dsimp only); (repeat (first | (first | (with_reducible refine wl_app ?_) | (with_reducible refine wl_app0 ?_) | ((with_reducible refine wl_g ?_); first | (refine wl_on rfl ?_) | ((refine wl_off rfl ?_); (first | ((with_reducible refine fastK Tryz.prog rfl ?_); go_big_move) | (with_reducible refine fastN rfl ?_) | skip))) | ((with_reducible refine on_load ?_); (first | refine xl1 M ?_ | refine xlN M ?_); go_big_move) | ((with_reducible refine on_store ?_); (first | refine xs1 M ?_ | refine xsN M ?_); clear M; intro w' M; (try simp only [List.set_cons_zero, List.set_cons_succ] at M)) | ((with_reducible refine on_box ?_); refine xb M ?_; clear M; intro g w' M; go_big_move) | ((with_reducible refine on_alloc ?_); refine xa M ?_; clear M; intro g w' M; go_big_move)) | go_values | go_skip | go_guarded | go_step | go_upon))
  exact ret_m1 rfl (Out.tmp rfl) rfl ⟨rfl, M.ext_of⟩
set_option maxRecDepth 100000 in
set_option maxHeartbeats 1000000 in
theorem right_14 (c0 c1 c2 c3 c4 c5 c6 c7 : Int) (q0 : decide (64 ≤ c0) = true) (q1 : decide (c0 ≤ 65536) = true) (q2 : decide (64 ≤ c1) = true) (q3 : decide (c1 ≤ 4096) = true) (q4 : decide (0 ≤ c2) = true) (q5 : decide (c2 ≤ 20) = true) (q6 : decide (256 ≤ c3) = true) (q7 : decide (c3 ≤ 65536) = true) (q8 : decide (1 ≤ c4) = true) (q9 : decide (c4 ≤ 8) = true) (q10 : decide (256 ≤ c5) = true) (q11 : decide (c5 ≤ 1048576) = true) (q12 : decide (1 ≤ c6) = true) (q13 : decide (c6 ≤ 1000) = true) (w : World) : Calls Tryz.prog 5 #[.agg #[fi c0, fi c1, fi c2, fi c3, fi c4, fi c5, fi c6, .int .u64 c7]] w fun e w' => e = .returned (.bool true) ∧ Ext w w' := by
  have M := Mem.start w
  go_enter Tryz.func5, Tryz.ntmps5
  (try dsimp only); (repeat (first | (first | (with_reducible refine wl_app ?_) | (with_reducible refine wl_app0 ?_) | ((with_reducible refine wl_g ?_); first | (refine wl_on rfl ?_) | ((refine wl_off rfl ?_); (first | ((with_reducible refine fastK Tryz.prog rfl ?_); go_big_move) | (with_reducible refine fastN rfl ?_) | skip))) | ((with_reducible refine on_load ?_); (first | refine xl1 M ?_ | refine xlN M ?_); go_big_move) | ((with_reducible refine on_store ?_); (first | refine xs1 M ?_ | refine xsN M ?_); clear M; intro w' M; (try simp only [List.set_cons_zero, List.set_cons_succ] at M)) | ((with_reducible refine on_box ?_); refine xb M ?_; clear M; intro g w' M; go_big_move) | ((with_reducible refine on_alloc ?_); refine xa M ?_; clear M; intro g w' M; go_big_move)) | go_values | go_skip | go_guarded | go_step | go_upon))
  exact ret_m1 rfl (Out.tmp rfl) rfl ⟨rfl, M.ext_of⟩
theorem check_any (c0 c1 c2 c3 c4 c5 c6 c7 : Int) (w : World) : Calls Tryz.prog 4 #[.agg #[fi c0, fi c1, fi c2, fi c3, fi c4, fi c5, fi c6, .int .u64 c7]] w fun e w' => e = .returned (fi (if Right c0 c1 c2 c3 c4 c5 c6 then 0 else 1)) ∧ Ext w w' := by
  cases h0 : (decide (64 ≤ c0) && decide (c0 ≤ 65536)) with
  | false =>
    have hn : ¬ Right c0 c1 c2 c3 c4 c5 c6 := by
      simp only [Bool.and_eq_false_iff, decide_eq_false_iff_not] at h0
      unfold Right
      omega
    rw [if_neg hn]
    exact check_0 c0 c1 c2 c3 c4 c5 c6 c7 h0 w
  | true =>
  cases h1 : (decide (64 ≤ c1) && decide (c1 ≤ 4096)) with
  | false =>
    have hn : ¬ Right c0 c1 c2 c3 c4 c5 c6 := by
      simp only [Bool.and_eq_false_iff, decide_eq_false_iff_not] at h1
      unfold Right
      omega
    rw [if_neg hn]
    exact check_1 c0 c1 c2 c3 c4 c5 c6 c7 h0 h1 w
  | true =>
  cases h2 : (decide (0 ≤ c2) && decide (c2 ≤ 20)) with
  | false =>
    have hn : ¬ Right c0 c1 c2 c3 c4 c5 c6 := by
      simp only [Bool.and_eq_false_iff, decide_eq_false_iff_not] at h2
      unfold Right
      omega
    rw [if_neg hn]
    exact check_2 c0 c1 c2 c3 c4 c5 c6 c7 h0 h1 h2 w
  | true =>
  cases h3 : (decide (256 ≤ c3) && decide (c3 ≤ 65536)) with
  | false =>
    have hn : ¬ Right c0 c1 c2 c3 c4 c5 c6 := by
      simp only [Bool.and_eq_false_iff, decide_eq_false_iff_not] at h3
      unfold Right
      omega
    rw [if_neg hn]
    exact check_3 c0 c1 c2 c3 c4 c5 c6 c7 h0 h1 h2 h3 w
  | true =>
  cases h4 : (decide (1 ≤ c4) && decide (c4 ≤ 8)) with
  | false =>
    have hn : ¬ Right c0 c1 c2 c3 c4 c5 c6 := by
      simp only [Bool.and_eq_false_iff, decide_eq_false_iff_not] at h4
      unfold Right
      omega
    rw [if_neg hn]
    exact check_4 c0 c1 c2 c3 c4 c5 c6 c7 h0 h1 h2 h3 h4 w
  | true =>
  cases h5 : (decide (256 ≤ c5) && decide (c5 ≤ 1048576)) with
  | false =>
    have hn : ¬ Right c0 c1 c2 c3 c4 c5 c6 := by
      simp only [Bool.and_eq_false_iff, decide_eq_false_iff_not] at h5
      unfold Right
      omega
    rw [if_neg hn]
    exact check_5 c0 c1 c2 c3 c4 c5 c6 c7 h0 h1 h2 h3 h4 h5 w
  | true =>
  cases h6 : (decide (1 ≤ c6) && decide (c6 ≤ 1000)) with
  | false =>
    have hn : ¬ Right c0 c1 c2 c3 c4 c5 c6 := by
      simp only [Bool.and_eq_false_iff, decide_eq_false_iff_not] at h6
      unfold Right
      omega
    rw [if_neg hn]
    exact check_6 c0 c1 c2 c3 c4 c5 c6 c7 h0 h1 h2 h3 h4 h5 h6 w
  | true =>
  have hr : Right c0 c1 c2 c3 c4 c5 c6 := by
    simp only [Bool.and_eq_true, decide_eq_true_eq] at h0 h1 h2 h3 h4 h5 h6
    unfold Right
    omega
  rw [if_pos hr]
  exact check_7 c0 c1 c2 c3 c4 c5 c6 c7 h0 h1 h2 h3 h4 h5 h6 w
theorem right_any (c0 c1 c2 c3 c4 c5 c6 c7 : Int) (w : World) : Calls Tryz.prog 5 #[.agg #[fi c0, fi c1, fi c2, fi c3, fi c4, fi c5, fi c6, .int .u64 c7]] w fun e w' => e = .returned (.bool (decide (Right c0 c1 c2 c3 c4 c5 c6))) ∧ Ext w w' := by
  cases q0 : decide (64 ≤ c0) with
  | false =>
    have hn : ¬ Right c0 c1 c2 c3 c4 c5 c6 := by
      simp only [decide_eq_false_iff_not] at q0
      unfold Right
      omega
    rw [decide_eq_false hn]
    exact right_0 c0 c1 c2 c3 c4 c5 c6 c7 q0 w
  | true =>
  cases q1 : decide (c0 ≤ 65536) with
  | false =>
    have hn : ¬ Right c0 c1 c2 c3 c4 c5 c6 := by
      simp only [decide_eq_false_iff_not] at q1
      unfold Right
      omega
    rw [decide_eq_false hn]
    exact right_1 c0 c1 c2 c3 c4 c5 c6 c7 q0 q1 w
  | true =>
  cases q2 : decide (64 ≤ c1) with
  | false =>
    have hn : ¬ Right c0 c1 c2 c3 c4 c5 c6 := by
      simp only [decide_eq_false_iff_not] at q2
      unfold Right
      omega
    rw [decide_eq_false hn]
    exact right_2 c0 c1 c2 c3 c4 c5 c6 c7 q0 q1 q2 w
  | true =>
  cases q3 : decide (c1 ≤ 4096) with
  | false =>
    have hn : ¬ Right c0 c1 c2 c3 c4 c5 c6 := by
      simp only [decide_eq_false_iff_not] at q3
      unfold Right
      omega
    rw [decide_eq_false hn]
    exact right_3 c0 c1 c2 c3 c4 c5 c6 c7 q0 q1 q2 q3 w
  | true =>
  cases q4 : decide (0 ≤ c2) with
  | false =>
    have hn : ¬ Right c0 c1 c2 c3 c4 c5 c6 := by
      simp only [decide_eq_false_iff_not] at q4
      unfold Right
      omega
    rw [decide_eq_false hn]
    exact right_4 c0 c1 c2 c3 c4 c5 c6 c7 q0 q1 q2 q3 q4 w
  | true =>
  cases q5 : decide (c2 ≤ 20) with
  | false =>
    have hn : ¬ Right c0 c1 c2 c3 c4 c5 c6 := by
      simp only [decide_eq_false_iff_not] at q5
      unfold Right
      omega
    rw [decide_eq_false hn]
    exact right_5 c0 c1 c2 c3 c4 c5 c6 c7 q0 q1 q2 q3 q4 q5 w
  | true =>
  cases q6 : decide (256 ≤ c3) with
  | false =>
    have hn : ¬ Right c0 c1 c2 c3 c4 c5 c6 := by
      simp only [decide_eq_false_iff_not] at q6
      unfold Right
      omega
    rw [decide_eq_false hn]
    exact right_6 c0 c1 c2 c3 c4 c5 c6 c7 q0 q1 q2 q3 q4 q5 q6 w
  | true =>
  cases q7 : decide (c3 ≤ 65536) with
  | false =>
    have hn : ¬ Right c0 c1 c2 c3 c4 c5 c6 := by
      simp only [decide_eq_false_iff_not] at q7
      unfold Right
      omega
    rw [decide_eq_false hn]
    exact right_7 c0 c1 c2 c3 c4 c5 c6 c7 q0 q1 q2 q3 q4 q5 q6 q7 w
  | true =>
  cases q8 : decide (1 ≤ c4) with
  | false =>
    have hn : ¬ Right c0 c1 c2 c3 c4 c5 c6 := by
      simp only [decide_eq_false_iff_not] at q8
      unfold Right
      omega
    rw [decide_eq_false hn]
    exact right_8 c0 c1 c2 c3 c4 c5 c6 c7 q0 q1 q2 q3 q4 q5 q6 q7 q8 w
  | true =>
  cases q9 : decide (c4 ≤ 8) with
  | false =>
    have hn : ¬ Right c0 c1 c2 c3 c4 c5 c6 := by
      simp only [decide_eq_false_iff_not] at q9
      unfold Right
      omega
    rw [decide_eq_false hn]
    exact right_9 c0 c1 c2 c3 c4 c5 c6 c7 q0 q1 q2 q3 q4 q5 q6 q7 q8 q9 w
  | true =>
  cases q10 : decide (256 ≤ c5) with
  | false =>
    have hn : ¬ Right c0 c1 c2 c3 c4 c5 c6 := by
      simp only [decide_eq_false_iff_not] at q10
      unfold Right
      omega
    rw [decide_eq_false hn]
    exact right_10 c0 c1 c2 c3 c4 c5 c6 c7 q0 q1 q2 q3 q4 q5 q6 q7 q8 q9 q10 w
  | true =>
  cases q11 : decide (c5 ≤ 1048576) with
  | false =>
    have hn : ¬ Right c0 c1 c2 c3 c4 c5 c6 := by
      simp only [decide_eq_false_iff_not] at q11
      unfold Right
      omega
    rw [decide_eq_false hn]
    exact right_11 c0 c1 c2 c3 c4 c5 c6 c7 q0 q1 q2 q3 q4 q5 q6 q7 q8 q9 q10 q11 w
  | true =>
  cases q12 : decide (1 ≤ c6) with
  | false =>
    have hn : ¬ Right c0 c1 c2 c3 c4 c5 c6 := by
      simp only [decide_eq_false_iff_not] at q12
      unfold Right
      omega
    rw [decide_eq_false hn]
    exact right_12 c0 c1 c2 c3 c4 c5 c6 c7 q0 q1 q2 q3 q4 q5 q6 q7 q8 q9 q10 q11 q12 w
  | true =>
  cases q13 : decide (c6 ≤ 1000) with
  | false =>
    have hn : ¬ Right c0 c1 c2 c3 c4 c5 c6 := by
      simp only [decide_eq_false_iff_not] at q13
      unfold Right
      omega
    rw [decide_eq_false hn]
    exact right_13 c0 c1 c2 c3 c4 c5 c6 c7 q0 q1 q2 q3 q4 q5 q6 q7 q8 q9 q10 q11 q12 q13 w
  | true =>
  have hr : Right c0 c1 c2 c3 c4 c5 c6 := by
    simp only [decide_eq_true_eq] at q0 q1 q2 q3 q4 q5 q6 q7 q8 q9 q10 q11 q12 q13
    unfold Right
    omega
  rw [decide_eq_true hr]
  exact right_14 c0 c1 c2 c3 c4 c5 c6 c7 q0 q1 q2 q3 q4 q5 q6 q7 q8 q9 q10 q11 q12 q13 w
end Go.Proofs.YtjkfoninjpefmaaGreatDoor
