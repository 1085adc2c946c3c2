/- Parts of this work, one behind the other: FiltV. -/
import Derived.Test.YtkblkdnihppmnaaGreatDoorPkv27
import Derived.Test.YtkblkdnihppmnaaGreatDoorPkv7
/- Filters (layer 21): the program's Parse (walk). -/
namespace Go.Proofs.YtkblkdnihppmnaaGreatDoor
set_option linter.unusedSimpArgs false
set_option linter.unusedVariables false
open Go.RowKit Res Filt

set_option maxRecDepth 100000 in
set_option maxHeartbeats 800000 in
theorem caught_fault (gf ge ga : Nat) (i : Int) (w : World) (vf ve va : Value) {tf te ta : TypeId} {S : Nat → Prop} {w0 : World} {l : List Res} (M : Mem S w0 (bx ga ta [va] :: bx ge te [ve] :: bx gf tf [vf] :: l) w) :
    CallsD Tryz.prog 14 #[.pointer (some ⟨gf, 0, none⟩), .pointer (some ⟨ge, 0, none⟩), .pointer (some ⟨ga, 0, none⟩)] (.panicking (faultAt i)) w fun e u' w' => e = .returned (.tuple #[]) ∧ settle u' = .returning ∧ Mem S w0 (bx ga ta [fi i] :: bx ge te [fi 51] :: bx gf tf [.pointer none] :: l) w' := by
  have hta : ∀ w : World, (Instr.typeAssert (.iface 42 (fi i)) 20 42 true).run Tryz.prog w = .ok (.tuple #[fi i, .bool true]) w := fun _ => by kernel_rfl
  refine callsD_of_wpS Tryz.func14 rfl fun c₀ cs hu => ?_
  apply wpS_seq
  apply wpS_region
  simp [wpOpsS, go_sem, recoverD, hu, Tryz.ntmps14, Exit.thenS]
  apply wpS_seq
  apply wpS_region
  simp [wpOpsS, go_sem, Exit.thenS]
  refine wpS_cond (t := true) (by simp [Act.eval, Array.replicate]) ?_
  simp only [if_true]
  refine wpS_of_wp ?_
  change Code.wp _ _ _ { tmps := #[.pointer (some ⟨gf, 0, none⟩), .pointer (some ⟨ge, 0, none⟩), .pointer (some ⟨ga, 0, none⟩), .iface 42 (fi i), undef, undef, .iface 42 (fi i), .iface 42 (fi i), .bool true, undef, undef, undef, undef, undef, undef, undef, undef, undef], defers := [] } _
  (try dsimp only); (repeat (first | (first | ((with_reducible refine wl_g ?_); first | go_big_want | go_skip | ((with_reducible refine wl_off (by kernel_rfl) ?_); (first | ((with_reducible refine fastK Tryz.prog rfl ?_); go_big_move) | (with_reducible refine fastN rfl ?_) | skip))) | ((with_reducible refine on_load ?_); (first | refine xl1 M ?_ | refine xlN M ?_); go_big_move) | ((with_reducible refine on_store ?_); (first | refine xs1 M ?_ | refine xsN M ?_); clear M; intro w' M; (try simp only [List.set_cons_zero, List.set_cons_succ] at M)) | ((with_reducible refine on_box ?_); refine xb M ?_; clear M; intro g w' M; go_big_move) | ((with_reducible refine on_alloc ?_); refine xa M ?_; clear M; intro g w' M; go_big_move)) | go_values | go_skip | go_guarded | go_step | go_upon))
  cases c₀
  simp_all [bodyPostS, results, Tryz.results14, settle]
end Go.Proofs.YtkblkdnihppmnaaGreatDoor
