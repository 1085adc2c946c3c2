/- The law StoreChecks, walked. -/
import Derived.Test.YtjkfoninjpefmaaGreatDoorSto1
import Derived.Test.YtjkfoninjpefmaaGreatDoorSto2
namespace Go.Proofs.YtjkfoninjpefmaaGreatDoor
set_option linter.unusedSimpArgs false
set_option linter.unusedVariables false
open Go.RowKit Res

theorem stats_same : ∀ w : World, (binOp BinOp.eql 49 (.agg #[.int .u64 0, fi 0, fi 0, fi 0, fi 0, fi 0, fi 0, fi 0, fi 0, .bool false, fi 0, fi 0, .int .u64 0]) (.agg #[.int .u64 0, fi 0, fi 0, fi 0, fi 0, fi 0, fi 0, fi 0, fi 0, .bool false, fi 0, fi 0, .int .u64 0])).run Tryz.prog w = .ok (.bool true) w := fun _ => by kernel_rfl
set_option maxRecDepth 100000 in
set_option maxHeartbeats 2000000 in
theorem storeChecks_walk (c0 c1 c2 c3 c4 c5 c6 c7 : Int) (key : List UInt8) (w : World) : Calls Tryz.prog 3 #[.agg #[fi c0, fi c1, fi c2, fi c3, fi c4, fi c5, fi c6, .int .u64 c7], str key] w fun e w' => e = .returned (.bool true) ∧ Ext w w' := by
  have M := Mem.start w
  have HC := Lib.hid (check_any c0 c1 c2 c3 c4 c5 c6 c7)
  have HR := Lib.hid (right_any c0 c1 c2 c3 c4 c5 c6 c7)
  have N0 := Lib.hid (nil_write)
  have N1 := Lib.hid (nil_get key)
  have N2 := Lib.hid (nil_scan key)
  have N3 := Lib.hid (nil_snap)
  have N4 := Lib.hid (nil_release)
  have N5 := Lib.hid (nil_getat key)
  have N6 := Lib.hid (nil_scanat key)
  have N7 := Lib.hid (nil_work)
  have NL := Lib.hid nil_live
  have NS := Lib.hid nil_stats
  have q0 := stats_same
  by_cases hr : Right c0 c1 c2 c3 c4 c5 c6
  · rw [if_pos hr] at HC
    rw [decide_eq_true hr] at HR
    clear hr
    go_enter Tryz.func3, Tryz.ntmps3
    (try dsimp only); (repeat (first | (first | (go_at_call 4; (with_reducible refine (HC.out _).mono ?_); rintro _ w1 ⟨rfl, hX⟩; replace M := M.ext hX; clear hX; dsimp only) | (go_at_call 5; (with_reducible refine (HR.out _).mono ?_); rintro _ w1 ⟨rfl, hX⟩; replace M := M.ext hX; clear hX; dsimp only) | (go_at_call 6; (with_reducible refine (N0.out _).mono ?_); rintro _ w1 ⟨rfl, hX⟩; replace M := M.ext hX; clear hX; dsimp only) | (go_at_call 7; (with_reducible refine (N1.out _).mono ?_); rintro _ w1 ⟨rfl, hX⟩; replace M := M.ext hX; clear hX; dsimp only) | (go_at_call 8; (with_reducible refine (N2.out _).mono ?_); rintro _ w1 ⟨rfl, hX⟩; replace M := M.ext hX; clear hX; dsimp only) | (go_at_call 9; (with_reducible refine (N3.out _).mono ?_); rintro _ w1 ⟨rfl, hX⟩; replace M := M.ext hX; clear hX; dsimp only) | (go_at_call 10; (with_reducible refine (N4.out _).mono ?_); rintro _ w1 ⟨rfl, hX⟩; replace M := M.ext hX; clear hX; dsimp only) | (go_at_call 11; (with_reducible refine (N5.out _).mono ?_); rintro _ w1 ⟨rfl, hX⟩; replace M := M.ext hX; clear hX; dsimp only) | (go_at_call 12; (with_reducible refine (N6.out _).mono ?_); rintro _ w1 ⟨rfl, hX⟩; replace M := M.ext hX; clear hX; dsimp only) | (go_at_call 13; (with_reducible refine (N7.out _).mono ?_); rintro _ w1 ⟨rfl, hX⟩; replace M := M.ext hX; clear hX; dsimp only) | (go_at_call 14; (with_reducible refine (NL.out _).mono ?_); rintro _ w1 ⟨rfl, hX⟩; replace M := M.ext hX; clear hX; dsimp only) | (go_at_call 15; (with_reducible refine (NS.out _).mono ?_); rintro _ w1 ⟨rfl, hX⟩; replace M := M.ext hX; clear hX; dsimp only) | ((with_reducible refine wl_g ?_); first | go_big_want | go_skip | ((with_reducible refine wl_off (by kernel_rfl) ?_); (first | ((with_reducible refine fastK Tryz.prog rfl ?_); go_big_move) | (with_reducible refine fastN rfl ?_) | skip))) | ((with_reducible refine on_load ?_); (first | refine xl1 M ?_ | refine xlN M ?_); go_big_move) | ((with_reducible refine on_store ?_); (first | refine xs1 M ?_ | refine xsN M ?_); clear M; intro w' M; (try simp only [List.set_cons_zero, List.set_cons_succ] at M)) | ((with_reducible refine on_box ?_); refine xb M ?_; clear M; intro g w' M; go_big_move) | ((with_reducible refine on_alloc ?_); refine xa M ?_; clear M; intro g w' M; go_big_move)) | go_values | go_skip | go_guarded | go_step | go_upon))
    exact ret_m1 rfl (Out.tmp rfl) rfl ⟨rfl, M.ext_of⟩
  · rw [if_neg hr] at HC
    rw [decide_eq_false hr] at HR
    clear hr
    go_enter Tryz.func3, Tryz.ntmps3
    (try dsimp only); (repeat (first | (first | (go_at_call 4; (with_reducible refine (HC.out _).mono ?_); rintro _ w1 ⟨rfl, hX⟩; replace M := M.ext hX; clear hX; dsimp only) | (go_at_call 5; (with_reducible refine (HR.out _).mono ?_); rintro _ w1 ⟨rfl, hX⟩; replace M := M.ext hX; clear hX; dsimp only) | (go_at_call 6; (with_reducible refine (N0.out _).mono ?_); rintro _ w1 ⟨rfl, hX⟩; replace M := M.ext hX; clear hX; dsimp only) | (go_at_call 7; (with_reducible refine (N1.out _).mono ?_); rintro _ w1 ⟨rfl, hX⟩; replace M := M.ext hX; clear hX; dsimp only) | (go_at_call 8; (with_reducible refine (N2.out _).mono ?_); rintro _ w1 ⟨rfl, hX⟩; replace M := M.ext hX; clear hX; dsimp only) | (go_at_call 9; (with_reducible refine (N3.out _).mono ?_); rintro _ w1 ⟨rfl, hX⟩; replace M := M.ext hX; clear hX; dsimp only) | (go_at_call 10; (with_reducible refine (N4.out _).mono ?_); rintro _ w1 ⟨rfl, hX⟩; replace M := M.ext hX; clear hX; dsimp only) | (go_at_call 11; (with_reducible refine (N5.out _).mono ?_); rintro _ w1 ⟨rfl, hX⟩; replace M := M.ext hX; clear hX; dsimp only) | (go_at_call 12; (with_reducible refine (N6.out _).mono ?_); rintro _ w1 ⟨rfl, hX⟩; replace M := M.ext hX; clear hX; dsimp only) | (go_at_call 13; (with_reducible refine (N7.out _).mono ?_); rintro _ w1 ⟨rfl, hX⟩; replace M := M.ext hX; clear hX; dsimp only) | (go_at_call 14; (with_reducible refine (NL.out _).mono ?_); rintro _ w1 ⟨rfl, hX⟩; replace M := M.ext hX; clear hX; dsimp only) | (go_at_call 15; (with_reducible refine (NS.out _).mono ?_); rintro _ w1 ⟨rfl, hX⟩; replace M := M.ext hX; clear hX; dsimp only) | ((with_reducible refine wl_g ?_); first | go_big_want | go_skip | ((with_reducible refine wl_off (by kernel_rfl) ?_); (first | ((with_reducible refine fastK Tryz.prog rfl ?_); go_big_move) | (with_reducible refine fastN rfl ?_) | skip))) | ((with_reducible refine on_load ?_); (first | refine xl1 M ?_ | refine xlN M ?_); go_big_move) | ((with_reducible refine on_store ?_); (first | refine xs1 M ?_ | refine xsN M ?_); clear M; intro w' M; (try simp only [List.set_cons_zero, List.set_cons_succ] at M)) | ((with_reducible refine on_box ?_); refine xb M ?_; clear M; intro g w' M; go_big_move) | ((with_reducible refine on_alloc ?_); refine xa M ?_; clear M; intro g w' M; go_big_move)) | go_values | go_skip | go_guarded | go_step | go_upon))
    exact ret_m1 rfl (Out.tmp rfl) rfl ⟨rfl, M.ext_of⟩
end Go.Proofs.YtjkfoninjpefmaaGreatDoor
