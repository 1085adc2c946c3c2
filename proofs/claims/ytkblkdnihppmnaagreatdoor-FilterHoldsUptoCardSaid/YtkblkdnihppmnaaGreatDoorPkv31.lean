/- Parts of this work, one behind the other: Rfm. -/
import Derived.Test.YtkblkdnihppmnaaGreatDoorPkv27
import Derived.Test.YtkblkdnihppmnaaGreatDoorPkv16
/- Filters (layer 21): what the document's test holds of (walk; printed by gen_rm.py). -/
namespace Go.Proofs.YtkblkdnihppmnaaGreatDoor
set_option linter.unusedSimpArgs false
set_option linter.unusedVariables false
open Go.RowKit Res Filt

theorem less_cmp : ∀ a b : List UInt8, Op.bytesLess a b = decide (Lib.compareBytes a b < 0)
  | [], [] => rfl
  | [], _ :: _ => rfl
  | _ :: _, [] => rfl
  | x :: a, y :: b => by
    have ih := less_cmp a b
    unfold Op.bytesLess Lib.compareBytes
    by_cases h : x < y
    · simp [h]
    · by_cases h2 : y < x
      · have h3 : x ≠ y := fun e => by subst e; exact UInt8.lt_irrefl _ h2
        simp [h, h2, h3]
      · have h3 : x = y := UInt8.le_antisymm (UInt8.not_lt.1 h2) (UInt8.not_lt.1 h)
        subst h3
        simp [UInt8.lt_irrefl, ih]
theorem eq_cmp : ∀ a b : List UInt8, (a == b) = (Lib.compareBytes a b == 0)
  | [], [] => rfl
  | [], _ :: _ => rfl
  | _ :: _, [] => rfl
  | x :: a, y :: b => by
    have ih := eq_cmp a b
    unfold Lib.compareBytes
    by_cases h : x < y
    · have h3 : x ≠ y := fun e => by subst e; exact UInt8.lt_irrefl _ h
      simp [h, h3]
    · by_cases h2 : y < x
      · have h3 : x ≠ y := fun e => by subst e; exact UInt8.lt_irrefl _ h2
        simp [h, h2, h3]
      · have h3 : x = y := UInt8.le_antisymm (UInt8.not_lt.1 h2) (UInt8.not_lt.1 h)
        subst h3
        simp only [UInt8.lt_irrefl, if_false]
        rw [← ih]
        simp
theorem ord_num (v n : Int) : decide (v < n) = decide (ordOf v n < 0) ∧ (v == n) = (ordOf v n == 0) := by
  unfold ordOf
  by_cases h1 : v < n
  · rw [if_pos h1]
    have h2 : v ≠ n := by omega
    simp [h1, h2]
  · rw [if_neg h1]
    by_cases h2 : n < v
    · rw [if_pos h2]
      have h3 : v ≠ n := by omega
      simp [h1, h3]
    · rw [if_neg h2]
      have h3 : v = n := by omega
      simp [h3]
/-- what the document makes of the two answers -/
def askR : Nat → Bool → Bool → Bool
  | 0, _, s => s
  | 1, _, s => !s
  | 2, b, _ => b
  | 3, b, s => b || s
  | 4, b, s => !b && !s
  | _, b, _ => !b
theorem ask_same (k : Nat) (o : Int) : askR k (decide (o < 0)) (o == 0) = cmpAsk k o := by
  unfold askR cmpAsk
  rcases Int.lt_trichotomy o 0 with h | h | h
  · have h1 : o ≠ 0 := by omega
    have h2 : ¬ 0 < o := by omega
    have h3 : ¬ 0 ≤ o := by omega
    have h4 : o ≤ 0 := by omega
    split <;> simp [h, h1, h2, h3, h4, bne]
  · subst h
    split <;> simp
  · have h1 : o ≠ 0 := by omega
    have h2 : ¬ o < 0 := by omega
    have h3 : 0 ≤ o := by omega
    have h4 : ¬ o ≤ 0 := by omega
    split <;> simp [h, h1, h2, h3, h4, bne]
set_option maxRecDepth 100000 in
set_option maxHeartbeats 4000000 in
theorem rvalue_any (a : Abt) (f : Nat) (hf : f < 13) (w : World) : Calls Tryz.prog 44 #[.agg #[fi a.a0, fi a.a1, fi a.a2, str a.id, fi a.a4, fi a.a5, fi a.a6, fi a.a7, fi a.a8, fi a.a9, fi a.a10, fi a.a11, fi a.a12, fi a.a13, fi a.a14, fi a.a15, fi a.a16], fi (f : Int)] w fun e w' => e = .returned (fi (a.vals.getD f 0)) ∧ Ext w w' := by
  have M := Mem.start w
  match f, hf with
  | 0, _ =>
    show Calls _ _ #[_, fi 0] w fun e w' => e = .returned (fi a.a0) ∧ Ext w w'
    go_enter Tryz.func44, Tryz.ntmps44
    (try dsimp only); (repeat (first | (first | ((with_reducible refine on_load ?_); (first | refine xl1 M ?_ | refine xlN M ?_); go_big_move) | ((with_reducible refine on_box ?_); refine xb M ?_; clear M; intro g w' M; go_big_move)) | go_values | go_skip | go_guarded | go_step | go_upon))
    exact ret_m1 rfl (Out.tmp rfl) rfl ⟨rfl, M.ext_of⟩
  | 1, _ =>
    show Calls _ _ #[_, fi 1] w fun e w' => e = .returned (fi a.a1) ∧ Ext w w'
    go_enter Tryz.func44, Tryz.ntmps44
    (try dsimp only); (repeat (first | (first | ((with_reducible refine on_load ?_); (first | refine xl1 M ?_ | refine xlN M ?_); go_big_move) | ((with_reducible refine on_box ?_); refine xb M ?_; clear M; intro g w' M; go_big_move)) | go_values | go_skip | go_guarded | go_step | go_upon))
    exact ret_m1 rfl (Out.tmp rfl) rfl ⟨rfl, M.ext_of⟩
  | 2, _ =>
    show Calls _ _ #[_, fi 2] w fun e w' => e = .returned (fi a.a2) ∧ Ext w w'
    go_enter Tryz.func44, Tryz.ntmps44
    (try dsimp only); (repeat (first | (first | ((with_reducible refine on_load ?_); (first | refine xl1 M ?_ | refine xlN M ?_); go_big_move) | ((with_reducible refine on_box ?_); refine xb M ?_; clear M; intro g w' M; go_big_move)) | go_values | go_skip | go_guarded | go_step | go_upon))
    exact ret_m1 rfl (Out.tmp rfl) rfl ⟨rfl, M.ext_of⟩
  | 3, _ =>
    show Calls _ _ #[_, fi 3] w fun e w' => e = .returned (fi a.a4) ∧ Ext w w'
    go_enter Tryz.func44, Tryz.ntmps44
    (try dsimp only); (repeat (first | (first | ((with_reducible refine on_load ?_); (first | refine xl1 M ?_ | refine xlN M ?_); go_big_move) | ((with_reducible refine on_box ?_); refine xb M ?_; clear M; intro g w' M; go_big_move)) | go_values | go_skip | go_guarded | go_step | go_upon))
    exact ret_m1 rfl (Out.tmp rfl) rfl ⟨rfl, M.ext_of⟩
  | 4, _ =>
    show Calls _ _ #[_, fi 4] w fun e w' => e = .returned (fi a.a5) ∧ Ext w w'
    go_enter Tryz.func44, Tryz.ntmps44
    (try dsimp only); (repeat (first | (first | ((with_reducible refine on_load ?_); (first | refine xl1 M ?_ | refine xlN M ?_); go_big_move) | ((with_reducible refine on_box ?_); refine xb M ?_; clear M; intro g w' M; go_big_move)) | go_values | go_skip | go_guarded | go_step | go_upon))
    exact ret_m1 rfl (Out.tmp rfl) rfl ⟨rfl, M.ext_of⟩
  | 5, _ =>
    show Calls _ _ #[_, fi 5] w fun e w' => e = .returned (fi a.a6) ∧ Ext w w'
    go_enter Tryz.func44, Tryz.ntmps44
    (try dsimp only); (repeat (first | (first | ((with_reducible refine on_load ?_); (first | refine xl1 M ?_ | refine xlN M ?_); go_big_move) | ((with_reducible refine on_box ?_); refine xb M ?_; clear M; intro g w' M; go_big_move)) | go_values | go_skip | go_guarded | go_step | go_upon))
    exact ret_m1 rfl (Out.tmp rfl) rfl ⟨rfl, M.ext_of⟩
  | 6, _ =>
    show Calls _ _ #[_, fi 6] w fun e w' => e = .returned (fi a.a7) ∧ Ext w w'
    go_enter Tryz.func44, Tryz.ntmps44
    (try dsimp only); (repeat (first | (first | ((with_reducible refine on_load ?_); (first | refine xl1 M ?_ | refine xlN M ?_); go_big_move) | ((with_reducible refine on_box ?_); refine xb M ?_; clear M; intro g w' M; go_big_move)) | go_values | go_skip | go_guarded | go_step | go_upon))
    exact ret_m1 rfl (Out.tmp rfl) rfl ⟨rfl, M.ext_of⟩
  | 7, _ =>
    show Calls _ _ #[_, fi 7] w fun e w' => e = .returned (fi a.a8) ∧ Ext w w'
    go_enter Tryz.func44, Tryz.ntmps44
    (try dsimp only); (repeat (first | (first | ((with_reducible refine on_load ?_); (first | refine xl1 M ?_ | refine xlN M ?_); go_big_move) | ((with_reducible refine on_box ?_); refine xb M ?_; clear M; intro g w' M; go_big_move)) | go_values | go_skip | go_guarded | go_step | go_upon))
    exact ret_m1 rfl (Out.tmp rfl) rfl ⟨rfl, M.ext_of⟩
  | 8, _ =>
    show Calls _ _ #[_, fi 8] w fun e w' => e = .returned (fi a.a12) ∧ Ext w w'
    go_enter Tryz.func44, Tryz.ntmps44
    (try dsimp only); (repeat (first | (first | ((with_reducible refine on_load ?_); (first | refine xl1 M ?_ | refine xlN M ?_); go_big_move) | ((with_reducible refine on_box ?_); refine xb M ?_; clear M; intro g w' M; go_big_move)) | go_values | go_skip | go_guarded | go_step | go_upon))
    exact ret_m1 rfl (Out.tmp rfl) rfl ⟨rfl, M.ext_of⟩
  | 9, _ =>
    show Calls _ _ #[_, fi 9] w fun e w' => e = .returned (fi a.a13) ∧ Ext w w'
    go_enter Tryz.func44, Tryz.ntmps44
    (try dsimp only); (repeat (first | (first | ((with_reducible refine on_load ?_); (first | refine xl1 M ?_ | refine xlN M ?_); go_big_move) | ((with_reducible refine on_box ?_); refine xb M ?_; clear M; intro g w' M; go_big_move)) | go_values | go_skip | go_guarded | go_step | go_upon))
    exact ret_m1 rfl (Out.tmp rfl) rfl ⟨rfl, M.ext_of⟩
  | 10, _ =>
    show Calls _ _ #[_, fi 10] w fun e w' => e = .returned (fi a.a14) ∧ Ext w w'
    go_enter Tryz.func44, Tryz.ntmps44
    (try dsimp only); (repeat (first | (first | ((with_reducible refine on_load ?_); (first | refine xl1 M ?_ | refine xlN M ?_); go_big_move) | ((with_reducible refine on_box ?_); refine xb M ?_; clear M; intro g w' M; go_big_move)) | go_values | go_skip | go_guarded | go_step | go_upon))
    exact ret_m1 rfl (Out.tmp rfl) rfl ⟨rfl, M.ext_of⟩
  | 11, _ =>
    show Calls _ _ #[_, fi 11] w fun e w' => e = .returned (fi a.a15) ∧ Ext w w'
    go_enter Tryz.func44, Tryz.ntmps44
    (try dsimp only); (repeat (first | (first | ((with_reducible refine on_load ?_); (first | refine xl1 M ?_ | refine xlN M ?_); go_big_move) | ((with_reducible refine on_box ?_); refine xb M ?_; clear M; intro g w' M; go_big_move)) | go_values | go_skip | go_guarded | go_step | go_upon))
    exact ret_m1 rfl (Out.tmp rfl) rfl ⟨rfl, M.ext_of⟩
  | 12, _ =>
    show Calls _ _ #[_, fi 12] w fun e w' => e = .returned (fi a.a16) ∧ Ext w w'
    go_enter Tryz.func44, Tryz.ntmps44
    (try dsimp only); (repeat (first | (first | ((with_reducible refine on_load ?_); (first | refine xl1 M ?_ | refine xlN M ?_); go_big_move) | ((with_reducible refine on_box ?_); refine xb M ?_; clear M; intro g w' M; go_big_move)) | go_values | go_skip | go_guarded | go_step | go_upon))
    exact ret_m1 rfl (Out.tmp rfl) rfl ⟨rfl, M.ext_of⟩
set_option maxRecDepth 100000 in
set_option maxHeartbeats 4000000 in
theorem rholds_num (a : Abt) (f k : Nat) (hf : f < 13) (hk : k < 6) (n : Int) (w : World) : Calls Tryz.prog 22 #[.agg #[fi 0, fi (f : Int), fi (k : Int), fi n, str []], .agg #[fi a.a0, fi a.a1, fi a.a2, str a.id, fi a.a4, fi a.a5, fi a.a6, fi a.a7, fi a.a8, fi a.a9, fi a.a10, fi a.a11, fi a.a12, fi a.a13, fi a.a14, fi a.a15, fi a.a16]] w fun e w' => e = .returned (.bool (numB a f k n)) ∧ Ext w w' := by
  have M := Mem.start w
  have hf13 : ((f : Int) == 13) = false := by rw [beq_eq_false_iff_ne]; omega
  obtain ⟨v, hv⟩ : ∃ v, a.vals.getD f 0 = v := ⟨_, rfl⟩
  have HV : Hid (∀ w', Calls Tryz.prog 44 #[.agg #[fi a.a0, fi a.a1, fi a.a2, str a.id, fi a.a4, fi a.a5, fi a.a6, fi a.a7, fi a.a8, fi a.a9, fi a.a10, fi a.a11, fi a.a12, fi a.a13, fi a.a14, fi a.a15, fi a.a16], fi (f : Int)] w' fun e w'' => e = .returned (fi v) ∧ Ext w' w'') := Lib.hid (fun w' => by rw [← hv]; exact rvalue_any a f hf w')
  have hres : numB a f k n = askR k (decide (v < n)) (v == n) := by rw [(ord_num v n).1, (ord_num v n).2, ask_same]; unfold numB; rw [hv]
  rw [hres]
  clear hres hv
  obtain ⟨b1, hb1⟩ : ∃ b, decide (v < n) = b := ⟨_, rfl⟩
  obtain ⟨b2, hb2⟩ : ∃ b, (v == n) = b := ⟨_, rfl⟩
  rw [hb1, hb2]
  match k, hk with
  | 0, _ =>
    show Calls _ _ _ w fun e w' => e = .returned (.bool (b2)) ∧ Ext w w'
    go_enter Tryz.func22, Tryz.ntmps22
    (try dsimp only); (repeat (first | (first | (go_at_call 44; (with_reducible refine (HV.out _).mono ?_); rintro _ w1 ⟨rfl, hX⟩; replace M := M.ext hX; clear hX; dsimp only) | ((with_reducible refine wl_g ?_); first | go_big_want | go_skip | ((with_reducible refine wl_off (by kernel_rfl) ?_); (first | ((with_reducible refine fastK Tryz.prog rfl ?_); go_big_move) | (with_reducible refine fastN rfl ?_) | skip))) | ((with_reducible refine on_load ?_); (first | refine xl1 M ?_ | refine xlN M ?_); go_big_move) | ((with_reducible refine on_box ?_); refine xb M ?_; clear M; intro g w' M; go_big_move)) | go_values | go_skip | go_guarded | go_step | go_upon))
    exact ret_m1 rfl (Out.tmp rfl) rfl ⟨rfl, M.ext_of⟩
  | 1, _ =>
    show Calls _ _ _ w fun e w' => e = .returned (.bool (!b2)) ∧ Ext w w'
    go_enter Tryz.func22, Tryz.ntmps22
    (try dsimp only); (repeat (first | (first | (go_at_call 44; (with_reducible refine (HV.out _).mono ?_); rintro _ w1 ⟨rfl, hX⟩; replace M := M.ext hX; clear hX; dsimp only) | ((with_reducible refine wl_g ?_); first | go_big_want | go_skip | ((with_reducible refine wl_off (by kernel_rfl) ?_); (first | ((with_reducible refine fastK Tryz.prog rfl ?_); go_big_move) | (with_reducible refine fastN rfl ?_) | skip))) | ((with_reducible refine on_load ?_); (first | refine xl1 M ?_ | refine xlN M ?_); go_big_move) | ((with_reducible refine on_box ?_); refine xb M ?_; clear M; intro g w' M; go_big_move)) | go_values | go_skip | go_guarded | go_step | go_upon))
    exact ret_m1 rfl (Out.tmp rfl) rfl ⟨rfl, M.ext_of⟩
  | 2, _ =>
    show Calls _ _ _ w fun e w' => e = .returned (.bool (b1)) ∧ Ext w w'
    go_enter Tryz.func22, Tryz.ntmps22
    (try dsimp only); (repeat (first | (first | (go_at_call 44; (with_reducible refine (HV.out _).mono ?_); rintro _ w1 ⟨rfl, hX⟩; replace M := M.ext hX; clear hX; dsimp only) | ((with_reducible refine wl_g ?_); first | go_big_want | go_skip | ((with_reducible refine wl_off (by kernel_rfl) ?_); (first | ((with_reducible refine fastK Tryz.prog rfl ?_); go_big_move) | (with_reducible refine fastN rfl ?_) | skip))) | ((with_reducible refine on_load ?_); (first | refine xl1 M ?_ | refine xlN M ?_); go_big_move) | ((with_reducible refine on_box ?_); refine xb M ?_; clear M; intro g w' M; go_big_move)) | go_values | go_skip | go_guarded | go_step | go_upon))
    exact ret_m1 rfl (Out.tmp rfl) rfl ⟨rfl, M.ext_of⟩
  | 3, _ =>
    show Calls _ _ _ w fun e w' => e = .returned (.bool (b1 || b2)) ∧ Ext w w'
    cases b1
    all_goals
      go_enter Tryz.func22, Tryz.ntmps22
      (try dsimp only); (repeat (first | (first | (go_at_call 44; (with_reducible refine (HV.out _).mono ?_); rintro _ w1 ⟨rfl, hX⟩; replace M := M.ext hX; clear hX; dsimp only) | ((with_reducible refine wl_g ?_); first | go_big_want | go_skip | ((with_reducible refine wl_off (by kernel_rfl) ?_); (first | ((with_reducible refine fastK Tryz.prog rfl ?_); go_big_move) | (with_reducible refine fastN rfl ?_) | skip))) | ((with_reducible refine on_load ?_); (first | refine xl1 M ?_ | refine xlN M ?_); go_big_move) | ((with_reducible refine on_box ?_); refine xb M ?_; clear M; intro g w' M; go_big_move)) | go_values | go_skip | go_guarded | go_step | go_upon))
      exact ret_m1 rfl (Out.tmp rfl) rfl ⟨rfl, M.ext_of⟩
  | 4, _ =>
    show Calls _ _ _ w fun e w' => e = .returned (.bool (!b1 && !b2)) ∧ Ext w w'
    cases b1
    all_goals
      go_enter Tryz.func22, Tryz.ntmps22
      (try dsimp only); (repeat (first | (first | (go_at_call 44; (with_reducible refine (HV.out _).mono ?_); rintro _ w1 ⟨rfl, hX⟩; replace M := M.ext hX; clear hX; dsimp only) | ((with_reducible refine wl_g ?_); first | go_big_want | go_skip | ((with_reducible refine wl_off (by kernel_rfl) ?_); (first | ((with_reducible refine fastK Tryz.prog rfl ?_); go_big_move) | (with_reducible refine fastN rfl ?_) | skip))) | ((with_reducible refine on_load ?_); (first | refine xl1 M ?_ | refine xlN M ?_); go_big_move) | ((with_reducible refine on_box ?_); refine xb M ?_; clear M; intro g w' M; go_big_move)) | go_values | go_skip | go_guarded | go_step | go_upon))
      exact ret_m1 rfl (Out.tmp rfl) rfl ⟨rfl, M.ext_of⟩
  | 5, _ =>
    show Calls _ _ _ w fun e w' => e = .returned (.bool (!b1)) ∧ Ext w w'
    go_enter Tryz.func22, Tryz.ntmps22
    (try dsimp only); (repeat (first | (first | (go_at_call 44; (with_reducible refine (HV.out _).mono ?_); rintro _ w1 ⟨rfl, hX⟩; replace M := M.ext hX; clear hX; dsimp only) | ((with_reducible refine wl_g ?_); first | go_big_want | go_skip | ((with_reducible refine wl_off (by kernel_rfl) ?_); (first | ((with_reducible refine fastK Tryz.prog rfl ?_); go_big_move) | (with_reducible refine fastN rfl ?_) | skip))) | ((with_reducible refine on_load ?_); (first | refine xl1 M ?_ | refine xlN M ?_); go_big_move) | ((with_reducible refine on_box ?_); refine xb M ?_; clear M; intro g w' M; go_big_move)) | go_values | go_skip | go_guarded | go_step | go_upon))
    exact ret_m1 rfl (Out.tmp rfl) rfl ⟨rfl, M.ext_of⟩
set_option maxRecDepth 100000 in
set_option maxHeartbeats 4000000 in
theorem rholds_idt (a : Abt) (k : Nat) (hk : k < 6) (t : List UInt8) (w : World) : Calls Tryz.prog 22 #[.agg #[fi 0, fi 13, fi (k : Int), fi 0, str t], .agg #[fi a.a0, fi a.a1, fi a.a2, str a.id, fi a.a4, fi a.a5, fi a.a6, fi a.a7, fi a.a8, fi a.a9, fi a.a10, fi a.a11, fi a.a12, fi a.a13, fi a.a14, fi a.a15, fi a.a16]] w fun e w' => e = .returned (.bool (idtB a k t)) ∧ Ext w w' := by
  have M := Mem.start w
  have hres : idtB a k t = askR k (Op.bytesLess a.id t) (a.id == t) := by rw [less_cmp, eq_cmp, ask_same]; rfl
  rw [hres]
  clear hres
  obtain ⟨b1, hb1⟩ : ∃ b, Op.bytesLess a.id t = b := ⟨_, rfl⟩
  obtain ⟨b2, hb2⟩ : ∃ b, (a.id == t) = b := ⟨_, rfl⟩
  rw [hb1, hb2]
  match k, hk with
  | 0, _ =>
    show Calls _ _ _ w fun e w' => e = .returned (.bool (b2)) ∧ Ext w w'
    go_enter Tryz.func22, Tryz.ntmps22
    (try dsimp only); (repeat (first | (first | fail | ((with_reducible refine wl_g ?_); first | go_big_want | go_skip | ((with_reducible refine wl_off (by kernel_rfl) ?_); (first | ((with_reducible refine fastK Tryz.prog rfl ?_); go_big_move) | (with_reducible refine fastN rfl ?_) | skip))) | ((with_reducible refine on_load ?_); (first | refine xl1 M ?_ | refine xlN M ?_); go_big_move) | ((with_reducible refine on_box ?_); refine xb M ?_; clear M; intro g w' M; go_big_move)) | go_values | go_skip | go_guarded | go_step | go_upon))
    exact ret_m1 rfl (Out.tmp rfl) rfl ⟨rfl, M.ext_of⟩
  | 1, _ =>
    show Calls _ _ _ w fun e w' => e = .returned (.bool (!b2)) ∧ Ext w w'
    go_enter Tryz.func22, Tryz.ntmps22
    (try dsimp only); (repeat (first | (first | fail | ((with_reducible refine wl_g ?_); first | go_big_want | go_skip | ((with_reducible refine wl_off (by kernel_rfl) ?_); (first | ((with_reducible refine fastK Tryz.prog rfl ?_); go_big_move) | (with_reducible refine fastN rfl ?_) | skip))) | ((with_reducible refine on_load ?_); (first | refine xl1 M ?_ | refine xlN M ?_); go_big_move) | ((with_reducible refine on_box ?_); refine xb M ?_; clear M; intro g w' M; go_big_move)) | go_values | go_skip | go_guarded | go_step | go_upon))
    exact ret_m1 rfl (Out.tmp rfl) rfl ⟨rfl, M.ext_of⟩
  | 2, _ =>
    show Calls _ _ _ w fun e w' => e = .returned (.bool (b1)) ∧ Ext w w'
    go_enter Tryz.func22, Tryz.ntmps22
    (try dsimp only); (repeat (first | (first | fail | ((with_reducible refine wl_g ?_); first | go_big_want | go_skip | ((with_reducible refine wl_off (by kernel_rfl) ?_); (first | ((with_reducible refine fastK Tryz.prog rfl ?_); go_big_move) | (with_reducible refine fastN rfl ?_) | skip))) | ((with_reducible refine on_load ?_); (first | refine xl1 M ?_ | refine xlN M ?_); go_big_move) | ((with_reducible refine on_box ?_); refine xb M ?_; clear M; intro g w' M; go_big_move)) | go_values | go_skip | go_guarded | go_step | go_upon))
    exact ret_m1 rfl (Out.tmp rfl) rfl ⟨rfl, M.ext_of⟩
  | 3, _ =>
    show Calls _ _ _ w fun e w' => e = .returned (.bool (b1 || b2)) ∧ Ext w w'
    cases b1
    all_goals
      go_enter Tryz.func22, Tryz.ntmps22
      (try dsimp only); (repeat (first | (first | fail | ((with_reducible refine wl_g ?_); first | go_big_want | go_skip | ((with_reducible refine wl_off (by kernel_rfl) ?_); (first | ((with_reducible refine fastK Tryz.prog rfl ?_); go_big_move) | (with_reducible refine fastN rfl ?_) | skip))) | ((with_reducible refine on_load ?_); (first | refine xl1 M ?_ | refine xlN M ?_); go_big_move) | ((with_reducible refine on_box ?_); refine xb M ?_; clear M; intro g w' M; go_big_move)) | go_values | go_skip | go_guarded | go_step | go_upon))
      exact ret_m1 rfl (Out.tmp rfl) rfl ⟨rfl, M.ext_of⟩
  | 4, _ =>
    show Calls _ _ _ w fun e w' => e = .returned (.bool (!b1 && !b2)) ∧ Ext w w'
    cases b1
    all_goals
      go_enter Tryz.func22, Tryz.ntmps22
      (try dsimp only); (repeat (first | (first | fail | ((with_reducible refine wl_g ?_); first | go_big_want | go_skip | ((with_reducible refine wl_off (by kernel_rfl) ?_); (first | ((with_reducible refine fastK Tryz.prog rfl ?_); go_big_move) | (with_reducible refine fastN rfl ?_) | skip))) | ((with_reducible refine on_load ?_); (first | refine xl1 M ?_ | refine xlN M ?_); go_big_move) | ((with_reducible refine on_box ?_); refine xb M ?_; clear M; intro g w' M; go_big_move)) | go_values | go_skip | go_guarded | go_step | go_upon))
      exact ret_m1 rfl (Out.tmp rfl) rfl ⟨rfl, M.ext_of⟩
  | 5, _ =>
    show Calls _ _ _ w fun e w' => e = .returned (.bool (!b1)) ∧ Ext w w'
    go_enter Tryz.func22, Tryz.ntmps22
    (try dsimp only); (repeat (first | (first | fail | ((with_reducible refine wl_g ?_); first | go_big_want | go_skip | ((with_reducible refine wl_off (by kernel_rfl) ?_); (first | ((with_reducible refine fastK Tryz.prog rfl ?_); go_big_move) | (with_reducible refine fastN rfl ?_) | skip))) | ((with_reducible refine on_load ?_); (first | refine xl1 M ?_ | refine xlN M ?_); go_big_move) | ((with_reducible refine on_box ?_); refine xb M ?_; clear M; intro g w' M; go_big_move)) | go_values | go_skip | go_guarded | go_step | go_upon))
    exact ret_m1 rfl (Out.tmp rfl) rfl ⟨rfl, M.ext_of⟩
end Go.Proofs.YtkblkdnihppmnaaGreatDoor
