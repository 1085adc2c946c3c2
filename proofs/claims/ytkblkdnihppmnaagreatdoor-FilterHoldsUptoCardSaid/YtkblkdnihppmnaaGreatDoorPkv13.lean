/- Parts of this work, one behind the other: FiltYa. -/
import Derived.Test.YtkblkdnihppmnaaGreatDoorPkv12
/- Filters (layer 21): what a part holds of (walk, second part): not, all, either. -/
namespace Go.Proofs.YtkblkdnihppmnaaGreatDoor
set_option linter.unusedSimpArgs false
set_option linter.unusedVariables false
open Go.RowKit Res Filt

def tyV : Nd → TypeId
  | .num .. => 119
  | .idt .. => 117
  | .not .. => 102
  | .all .. => 87
  | .any .. => 80
def payV : Nd → Value
  | .num f k n => .agg #[str (fieldNames.getD f []), str (askNames.getD k []), fi n]
  | .idt k t => .agg #[str (askNames.getD k []), str t]
  | .not n => .agg #[ndV n]
  | .all a b => .agg #[ndV a, ndV b]
  | .any a b => .agg #[ndV a, ndV b]
theorem ndV_eq (n : Nd) : ndV n = .iface (tyV n) (payV n) := by cases n <;> rfl
def holdsF : Nd → FuncId
  | .num .. => 135
  | .idt .. => 128
  | .not .. => 125
  | .all .. => 119
  | .any .. => 116
def textF : Nd → FuncId
  | .num .. => 137
  | .idt .. => 130
  | .not .. => 127
  | .all .. => 121
  | .any .. => 118
theorem method_holds (n : Nd) (w : World) : (method 281 (tyV n) (payV n) "tapestry/filter.holds").run Tryz.prog w = .ok (holdsF n, payV n) w := by
  cases n <;> kernel_rfl
theorem call_holds (n : Nd) (args : Array Value) (w : World) : (callFunc (holdsF n) args).run Tryz.prog w = .ok (.enter (holdsF n) args) w := by
  cases n <;> kernel_rfl
/-- a part's answer, by its method -/
def HoldsIs (num : Nat → Nat → Int → Bool) (idt : Nat → List UInt8 → Bool) (av : List Value) (n : Nd) : Prop :=
  ∀ w, Nv w → Calls Tryz.prog (holdsF n) #[payV n, .agg av.toArray] w fun e w' => e = .returned (.bool (holdsOf num idt n)) ∧ Ext w w'
set_option maxRecDepth 100000 in
set_option maxHeartbeats 800000 in
theorem not_holds (num : Nat → Nat → Int → Bool) (idt : Nat → List UInt8 → Bool) (k0 k1 k2 k3 k4 k5 k6 k7 k8 k9 k10 k11 k12 k13 k14 k15 k16 : Value) (n : Nd) (h : HoldsIs num idt [k0, k1, k2, k3, k4, k5, k6, k7, k8, k9, k10, k11, k12, k13, k14, k15, k16] n) : HoldsIs num idt [k0, k1, k2, k3, k4, k5, k6, k7, k8, k9, k10, k11, k12, k13, k14, k15, k16] (.not n) := by
  intro w hN
  have M := Mem.start w
  have HM := Lib.hid (method_holds n)
  have HC := Lib.hid (call_holds n)
  have HH : Hid (∀ w', Ext w w' → Calls Tryz.prog (holdsF n) #[payV n, .agg #[k0, k1, k2, k3, k4, k5, k6, k7, k8, k9, k10, k11, k12, k13, k14, k15, k16]] w' fun e w'' => e = .returned (.bool (holdsOf num idt n)) ∧ Ext w' w'') := Lib.hid (fun w' hX => h w' (hN.ext hX))
  clear h hN
  show Calls Tryz.prog 125 #[.agg #[ndV n], .agg #[k0, k1, k2, k3, k4, k5, k6, k7, k8, k9, k10, k11, k12, k13, k14, k15, k16]] w fun e w' => e = .returned (.bool (!holdsOf num idt n)) ∧ Ext w w'
  rw [ndV_eq n]
  generalize holdsOf num idt n = b at HH
  go_enter Tryz.func125, Tryz.ntmps125
  (try dsimp only); (repeat (first | (first | (simp only [HM.out, HC.out, Result.andThen_ok]; rw [Oper.upon_enter]; (with_reducible refine (HH.out _ M.ext_of).mono ?_); rintro _ w1 ⟨rfl, hX⟩; replace M := M.ext hX; clear hX; dsimp only) | ((with_reducible refine on_load ?_); (first | refine xl1 M ?_ | refine xlN M ?_); go_big_move) | ((with_reducible refine on_box ?_); refine xb M ?_; clear M; intro g w' M; go_big_move)) | go_values | go_skip | go_guarded | go_step | go_upon))
  exact ret_m1 rfl (Out.tmp rfl) rfl ⟨rfl, M.ext_of⟩
set_option maxRecDepth 100000 in
set_option maxHeartbeats 800000 in
theorem all_holds (num : Nat → Nat → Int → Bool) (idt : Nat → List UInt8 → Bool) (k0 k1 k2 k3 k4 k5 k6 k7 k8 k9 k10 k11 k12 k13 k14 k15 k16 : Value) (n m : Nd) (h1 : HoldsIs num idt [k0, k1, k2, k3, k4, k5, k6, k7, k8, k9, k10, k11, k12, k13, k14, k15, k16] n) (h2 : HoldsIs num idt [k0, k1, k2, k3, k4, k5, k6, k7, k8, k9, k10, k11, k12, k13, k14, k15, k16] m) : HoldsIs num idt [k0, k1, k2, k3, k4, k5, k6, k7, k8, k9, k10, k11, k12, k13, k14, k15, k16] (.all n m) := by
  intro w hN
  have M := Mem.start w
  have HM := Lib.hid (method_holds n)
  have HC := Lib.hid (call_holds n)
  have HM2 := Lib.hid (method_holds m)
  have HC2 := Lib.hid (call_holds m)
  have HH : Hid (∀ w', Ext w w' → Calls Tryz.prog (holdsF n) #[payV n, .agg #[k0, k1, k2, k3, k4, k5, k6, k7, k8, k9, k10, k11, k12, k13, k14, k15, k16]] w' fun e w'' => e = .returned (.bool (holdsOf num idt n)) ∧ Ext w' w'') := Lib.hid (fun w' hX => h1 w' (hN.ext hX))
  have HH2 : Hid (∀ w', Ext w w' → Calls Tryz.prog (holdsF m) #[payV m, .agg #[k0, k1, k2, k3, k4, k5, k6, k7, k8, k9, k10, k11, k12, k13, k14, k15, k16]] w' fun e w'' => e = .returned (.bool (holdsOf num idt m)) ∧ Ext w' w'') := Lib.hid (fun w' hX => h2 w' (hN.ext hX))
  clear h1 h2 hN
  show Calls Tryz.prog 119 #[.agg #[ndV n, ndV m], .agg #[k0, k1, k2, k3, k4, k5, k6, k7, k8, k9, k10, k11, k12, k13, k14, k15, k16]] w fun e w' => e = .returned (.bool (holdsOf num idt n && holdsOf num idt m)) ∧ Ext w w'
  rw [ndV_eq n, ndV_eq m]
  generalize holdsOf num idt n = b at HH ⊢
  generalize holdsOf num idt m = b2 at HH2 ⊢
  cases b
  all_goals
    go_enter Tryz.func119, Tryz.ntmps119
    (try dsimp only); (repeat (first | (first | (simp only [HM.out, HC.out, Result.andThen_ok]; rw [Oper.upon_enter]; (with_reducible refine (HH.out _ M.ext_of).mono ?_); rintro _ w1 ⟨rfl, hX⟩; replace M := M.ext hX; clear hX; dsimp only) | (simp only [HM2.out, HC2.out, Result.andThen_ok]; rw [Oper.upon_enter]; (with_reducible refine (HH2.out _ M.ext_of).mono ?_); rintro _ w1 ⟨rfl, hX⟩; replace M := M.ext hX; clear hX; dsimp only) | ((with_reducible refine wl_g ?_); first | go_big_want | go_skip | ((with_reducible refine wl_off (by kernel_rfl) ?_); (first | ((with_reducible refine fastK Tryz.prog rfl ?_); go_big_move) | (with_reducible refine fastN rfl ?_) | skip))) | ((with_reducible refine on_load ?_); (first | refine xl1 M ?_ | refine xlN M ?_); go_big_move) | ((with_reducible refine on_box ?_); refine xb M ?_; clear M; intro g w' M; go_big_move)) | go_values | go_skip | go_guarded | go_step | go_upon))
    exact ret_m1 rfl (Out.tmp rfl) rfl ⟨rfl, M.ext_of⟩
set_option maxRecDepth 100000 in
set_option maxHeartbeats 800000 in
theorem any_holds (num : Nat → Nat → Int → Bool) (idt : Nat → List UInt8 → Bool) (k0 k1 k2 k3 k4 k5 k6 k7 k8 k9 k10 k11 k12 k13 k14 k15 k16 : Value) (n m : Nd) (h1 : HoldsIs num idt [k0, k1, k2, k3, k4, k5, k6, k7, k8, k9, k10, k11, k12, k13, k14, k15, k16] n) (h2 : HoldsIs num idt [k0, k1, k2, k3, k4, k5, k6, k7, k8, k9, k10, k11, k12, k13, k14, k15, k16] m) : HoldsIs num idt [k0, k1, k2, k3, k4, k5, k6, k7, k8, k9, k10, k11, k12, k13, k14, k15, k16] (.any n m) := by
  intro w hN
  have M := Mem.start w
  have HM := Lib.hid (method_holds n)
  have HC := Lib.hid (call_holds n)
  have HM2 := Lib.hid (method_holds m)
  have HC2 := Lib.hid (call_holds m)
  have HH : Hid (∀ w', Ext w w' → Calls Tryz.prog (holdsF n) #[payV n, .agg #[k0, k1, k2, k3, k4, k5, k6, k7, k8, k9, k10, k11, k12, k13, k14, k15, k16]] w' fun e w'' => e = .returned (.bool (holdsOf num idt n)) ∧ Ext w' w'') := Lib.hid (fun w' hX => h1 w' (hN.ext hX))
  have HH2 : Hid (∀ w', Ext w w' → Calls Tryz.prog (holdsF m) #[payV m, .agg #[k0, k1, k2, k3, k4, k5, k6, k7, k8, k9, k10, k11, k12, k13, k14, k15, k16]] w' fun e w'' => e = .returned (.bool (holdsOf num idt m)) ∧ Ext w' w'') := Lib.hid (fun w' hX => h2 w' (hN.ext hX))
  clear h1 h2 hN
  show Calls Tryz.prog 116 #[.agg #[ndV n, ndV m], .agg #[k0, k1, k2, k3, k4, k5, k6, k7, k8, k9, k10, k11, k12, k13, k14, k15, k16]] w fun e w' => e = .returned (.bool (holdsOf num idt n || holdsOf num idt m)) ∧ Ext w w'
  rw [ndV_eq n, ndV_eq m]
  generalize holdsOf num idt n = b at HH ⊢
  generalize holdsOf num idt m = b2 at HH2 ⊢
  cases b
  all_goals
    go_enter Tryz.func116, Tryz.ntmps116
    (try dsimp only); (repeat (first | (first | (simp only [HM.out, HC.out, Result.andThen_ok]; rw [Oper.upon_enter]; (with_reducible refine (HH.out _ M.ext_of).mono ?_); rintro _ w1 ⟨rfl, hX⟩; replace M := M.ext hX; clear hX; dsimp only) | (simp only [HM2.out, HC2.out, Result.andThen_ok]; rw [Oper.upon_enter]; (with_reducible refine (HH2.out _ M.ext_of).mono ?_); rintro _ w1 ⟨rfl, hX⟩; replace M := M.ext hX; clear hX; dsimp only) | ((with_reducible refine wl_g ?_); first | go_big_want | go_skip | ((with_reducible refine wl_off (by kernel_rfl) ?_); (first | ((with_reducible refine fastK Tryz.prog rfl ?_); go_big_move) | (with_reducible refine fastN rfl ?_) | skip))) | ((with_reducible refine on_load ?_); (first | refine xl1 M ?_ | refine xlN M ?_); go_big_move) | ((with_reducible refine on_box ?_); refine xb M ?_; clear M; intro g w' M; go_big_move)) | go_values | go_skip | go_guarded | go_step | go_upon))
    exact ret_m1 rfl (Out.tmp rfl) rfl ⟨rfl, M.ext_of⟩
end Go.Proofs.YtkblkdnihppmnaaGreatDoor
