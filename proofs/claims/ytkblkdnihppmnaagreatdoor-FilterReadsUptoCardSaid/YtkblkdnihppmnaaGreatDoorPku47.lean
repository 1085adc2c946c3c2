/- Parts of this work, one behind the other: FilterReads0. -/
import Derived.Test.YtkblkdnihppmnaaGreatDoorPku46
import Derived.Test.YtkblkdnihppmnaaGreatDoorPku40
/- The law FilterReads, walked. -/
namespace Go.Proofs.YtkblkdnihppmnaaGreatDoor
set_option linter.unusedSimpArgs false
set_option linter.unusedVariables false
open Go.RowKit Res Filt

set_option maxRecDepth 100000 in
set_option maxHeartbeats 800000 in
theorem filterReads_walk (s : List UInt8) (hs : s.length ≤ 140737488355328) (w : World) (hN : Nv w) (hg : Tryz.prog.globals.size ≤ w.heap.size) :
    Calls Tryz.prog 3 #[str s] w fun e w' => e = .returned (.bool true) ∧ Ext w w' := by
  have M := Mem.start w
  have q0 : ∀ w : World, (binOp BinOp.eql 22 (.pointer none) (.pointer none)).run Tryz.prog w = .ok (.bool true) w := fun _ => by kernel_rfl
  have q1 : ∀ (g : Nat) (w : World), (binOp BinOp.eql 22 (.pointer (some ⟨g, 0, none⟩)) (.pointer none)).run Tryz.prog w = .ok (.bool false) w := fun _ _ => by kernel_rfl
  have HP : Hid (∀ w', Ext w w' → ParseIs s w') := Lib.hid (fun w' hX => parse_any s w' (hN.ext hX) (Nat.le_trans hg hX.size))
  have HRP := Lib.hid (ref_parse s)
  go_enter Tryz.func3, Tryz.ntmps3
  (try dsimp only); (repeat (first | (first | (go_at_call 7; (with_reducible refine (HP.out _ M.ext_of).mono ?_); rintro e1 w1 ⟨o, ho, hx⟩; refine Hid.out ?_) | ((with_reducible refine wl_g ?_); first | go_big_want | go_skip | ((with_reducible refine wl_off (by kernel_rfl) ?_); (first | ((with_reducible refine fastK Tryz.prog rfl ?_); go_big_move) | (with_reducible refine fastN rfl ?_) | skip))) | ((with_reducible refine on_load ?_); (first | refine xl1 M ?_ | refine xlN M ?_); go_big_move) | ((with_reducible refine on_store ?_); (first | refine xs1 M ?_ | refine xsN M ?_); clear M; intro w' M; (try simp only [List.set_cons_zero, List.set_cons_succ] at M)) | ((with_reducible refine on_box ?_); refine xb M ?_; clear M; intro g w' M; go_big_move) | ((with_reducible refine on_alloc ?_); refine xa M ?_; clear M; intro g w' M; go_big_move)) | go_values | go_skip | go_guarded | go_step | go_upon))
  have HO := Lib.hid ho
  clear ho
  rcases o with (_ | n) | a
  · obtain ⟨g, rfl, hX, hz, hB⟩ := hx
    refine Lib.hid ?_
    replace M := M.ext hX
    clear hX
    dsimp only
    (try dsimp only); (repeat (first | (first | (go_at_call 8; (with_reducible refine (HRP.out _).mono ?_); rintro e2 w2 ⟨o2, ho2, hx2⟩; cases parse_same HO.out ho2; obtain ⟨rfl, hX⟩ := hx2; replace M := M.ext hX; clear hX; dsimp only) | ((with_reducible refine wl_g ?_); first | go_big_want | go_skip | ((with_reducible refine wl_off (by kernel_rfl) ?_); (first | ((with_reducible refine fastK Tryz.prog rfl ?_); go_big_move) | (with_reducible refine fastN rfl ?_) | skip))) | ((with_reducible refine on_load ?_); (first | refine xl1 M ?_ | refine xlN M ?_); go_big_move) | ((with_reducible refine on_store ?_); (first | refine xs1 M ?_ | refine xsN M ?_); clear M; intro w' M; (try simp only [List.set_cons_zero, List.set_cons_succ] at M)) | ((with_reducible refine on_box ?_); refine xb M ?_; clear M; intro g w' M; go_big_move) | ((with_reducible refine on_alloc ?_); refine xa M ?_; clear M; intro g w' M; go_big_move)) | go_values | go_skip | go_guarded | go_step | go_upon))
    exact ret_m1 rfl (Out.tmp rfl) rfl ⟨rfl, M.ext_of⟩
  · obtain ⟨g, rfl, hX, hz, hB⟩ := hx
    refine Lib.hid ?_
    replace M := M.ext hX
    clear hX
    dsimp only
    (try dsimp only); (repeat (first | (first | (go_at_call 8; (with_reducible refine (HRP.out _).mono ?_); rintro e2 w2 ⟨o2, ho2, hx2⟩; cases parse_same HO.out ho2; obtain ⟨A, c, rfl, hX, hO⟩ := hx2; replace M := M.ext hX; clear hX; dsimp only) | ((with_reducible refine wl_g ?_); first | go_big_want | go_skip | ((with_reducible refine wl_off (by kernel_rfl) ?_); (first | ((with_reducible refine fastK Tryz.prog rfl ?_); go_big_move) | (with_reducible refine fastN rfl ?_) | skip))) | ((with_reducible refine on_load ?_); (first | refine xl1 M ?_ | refine xlN M ?_); go_big_move) | ((with_reducible refine on_store ?_); (first | refine xs1 M ?_ | refine xsN M ?_); clear M; intro w' M; (try simp only [List.set_cons_zero, List.set_cons_succ] at M)) | ((with_reducible refine on_box ?_); refine xb M ?_; clear M; intro g w' M; go_big_move) | ((with_reducible refine on_alloc ?_); refine xa M ?_; clear M; intro g w' M; go_big_move)) | go_values | go_skip | go_guarded | go_step | go_upon))
    exact ret_m1 rfl (Out.tmp rfl) rfl ⟨rfl, M.ext_of⟩
  · obtain ⟨rfl, hX⟩ := hx
    refine Lib.hid ?_
    replace M := M.ext hX
    clear hX
    dsimp only
    have g1 : ((a : Int) == (a : Int)) = true := by simp
    (try dsimp only); (repeat (first | (first | (go_at_call 8; (with_reducible refine (HRP.out _).mono ?_); rintro e2 w2 ⟨o2, ho2, hx2⟩; cases parse_same HO.out ho2; obtain ⟨rfl, hX⟩ := hx2; replace M := M.ext hX; clear hX; dsimp only) | ((with_reducible refine wl_g ?_); first | go_big_want | go_skip | ((with_reducible refine wl_off (by kernel_rfl) ?_); (first | ((with_reducible refine fastK Tryz.prog rfl ?_); go_big_move) | (with_reducible refine fastN rfl ?_) | skip))) | ((with_reducible refine on_load ?_); (first | refine xl1 M ?_ | refine xlN M ?_); go_big_move) | ((with_reducible refine on_store ?_); (first | refine xs1 M ?_ | refine xsN M ?_); clear M; intro w' M; (try simp only [List.set_cons_zero, List.set_cons_succ] at M)) | ((with_reducible refine on_box ?_); refine xb M ?_; clear M; intro g w' M; go_big_move) | ((with_reducible refine on_alloc ?_); refine xa M ?_; clear M; intro g w' M; go_big_move)) | go_values | go_skip | go_guarded | go_step | go_upon))
    exact ret_m1 rfl (Out.tmp rfl) rfl ⟨rfl, M.ext_of⟩
end Go.Proofs.YtkblkdnihppmnaaGreatDoor
