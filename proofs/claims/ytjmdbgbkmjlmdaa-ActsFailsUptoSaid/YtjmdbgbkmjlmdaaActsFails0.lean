/- The walk of the statement ActsFails (layer 18). -/
import Derived.Test.YtjmdbgbkmjlmdaaShown
namespace Go.Proofs.Ytjmdbgbkmjlmdaa
set_option linter.unusedSimpArgs false
set_option linter.unusedVariables false
open Go.RowKit Res

set_option maxRecDepth 100000 in
set_option maxHeartbeats 8000000 in
theorem actsFails_walk (o : OptV) (a : ActV) (ha : a.In) (kind att which value by_ : Int) (w : World) :
    Calls Try.prog 4 #[.agg o.cells, .agg a.cells, .agg #[iv kind, iv att, iv which, iv value, iv by_]] w fun e w' => e = .returned (.bool true) ∧ Ext w w' := by
  have M := Mem.start w
  have HA := Lib.hid (fittedOf_ok ha)
  go_enter Try.func4, Try.ntmps4
  dsimp only [OptV.cells, ActV.cells]
  (try dsimp only); (repeat (first | (first | (go_at_call 11; (with_reducible refine (shown_law _).mono ?_); rintro _ w1 ⟨rfl, hX⟩; replace M := M.ext hX; clear hX; dsimp only) | (go_at_call 12; refine Hid.out ?_) | ((with_reducible refine on_load ?_); first | (refine wp_load1 M _ _ rfl _ _ rfl (by (repeat (first | exact Pick.head | apply Pick.tail)); done) (fun w => ⟨by first | (simp [go_sem]; done) | (simp [go_sem]; rfl), by first | (simp [go_sem]; done) | (simp [go_sem]; rfl)⟩) _ (by rfl) ?_; (try simp only [Act.put, List.setIfInBounds_toArray, List.set_cons_zero, List.set_cons_succ])) | (refine wp_loadN M _ _ rfl _ rfl (by (repeat (first | exact Pick.head | apply Pick.tail)); done) (fun w => ⟨by first | (simp [go_sem]; done) | (simp [go_sem]; rfl), by first | (simp [go_sem]; done) | (simp [go_sem]; rfl)⟩) ?_; (try simp only [Act.put, List.setIfInBounds_toArray, List.set_cons_zero, List.set_cons_succ]))) | ((with_reducible refine on_store ?_); first | (refine wp_store1 M _ _ _ rfl _ _ rfl (by (repeat (first | exact Pick.head | apply Pick.tail)); done) (fun w => ⟨by first | (simp [go_sem]; done) | (simp [go_sem]; rfl), by first | (simp [go_sem]; done) | (simp [go_sem]; rfl)⟩) _ (by first | exact CellsOf.agg _ | exact CellsOf.int _ _ | exact CellsOf.str _ | exact CellsOf.bool _ | exact CellsOf.slice _ _ _ | exact CellsOf.pointer _) (by rfl) (by (simp; done)) ?_; clear M; intro w' M; (try simp only [List.set_cons_zero, List.set_cons_succ] at M); (try simp only [Act.put, List.setIfInBounds_toArray, List.set_cons_zero, List.set_cons_succ])) | (refine wp_storeN M _ _ _ rfl _ rfl (by (repeat (first | exact Pick.head | apply Pick.tail)); done) (fun w => ⟨by first | (simp [go_sem]; done) | (simp [go_sem]; rfl), by first | (simp [go_sem]; done) | (simp [go_sem]; rfl)⟩) _ rfl (by rfl) (by rfl) ?_; clear M; intro w' M; (try simp only [] at M); (try simp only [Act.put, List.setIfInBounds_toArray, List.set_cons_zero, List.set_cons_succ]))) | ((with_reducible refine on_box ?_); refine wp_box M _ _ rfl _ (by first | exact CellsOf.agg _ | exact CellsOf.int _ _ | exact CellsOf.str _ | exact CellsOf.bool _ | exact CellsOf.slice _ _ _ | exact CellsOf.pointer _) ?_; clear M; intro g w' M; (try simp only [Act.put, List.setIfInBounds_toArray, List.set_cons_zero, List.set_cons_succ])) | ((with_reducible refine on_alloc ?_); refine wp_alloc M _ rfl _ (by simp [go_sem]; rfl) _ (by first | exact CellsOf.agg _ | exact CellsOf.int _ _ | exact CellsOf.str _ | exact CellsOf.bool _ | exact CellsOf.slice _ _ _ | exact CellsOf.pointer _) ?_; clear M; intro g w' M; (try simp only [Act.put, List.setIfInBounds_toArray, List.set_cons_zero, List.set_cons_succ]))) | go_values | go_skip | go_guarded | go_step | go_upon))
  unfold Hid
  refine (may_law o _).mono ?_
  rintro _ w1 ⟨b, rfl, hb, hX⟩
  replace M := M.ext hX
  clear hX
  have HB := Lib.hid hb
  clear hb
  dsimp only
  cases b with
  | false =>
    (try dsimp only); (repeat (first | (first | ((with_reducible refine on_load ?_); first | (refine wp_load1 M _ _ rfl _ _ rfl (by (repeat (first | exact Pick.head | apply Pick.tail)); done) (fun w => ⟨by first | (simp [go_sem]; done) | (simp [go_sem]; rfl), by first | (simp [go_sem]; done) | (simp [go_sem]; rfl)⟩) _ (by rfl) ?_; (try simp only [Act.put, List.setIfInBounds_toArray, List.set_cons_zero, List.set_cons_succ])) | (refine wp_loadN M _ _ rfl _ rfl (by (repeat (first | exact Pick.head | apply Pick.tail)); done) (fun w => ⟨by first | (simp [go_sem]; done) | (simp [go_sem]; rfl), by first | (simp [go_sem]; done) | (simp [go_sem]; rfl)⟩) ?_; (try simp only [Act.put, List.setIfInBounds_toArray, List.set_cons_zero, List.set_cons_succ]))) | ((with_reducible refine on_store ?_); first | (refine wp_store1 M _ _ _ rfl _ _ rfl (by (repeat (first | exact Pick.head | apply Pick.tail)); done) (fun w => ⟨by first | (simp [go_sem]; done) | (simp [go_sem]; rfl), by first | (simp [go_sem]; done) | (simp [go_sem]; rfl)⟩) _ (by first | exact CellsOf.agg _ | exact CellsOf.int _ _ | exact CellsOf.str _ | exact CellsOf.bool _ | exact CellsOf.slice _ _ _ | exact CellsOf.pointer _) (by rfl) (by (simp; done)) ?_; clear M; intro w' M; (try simp only [List.set_cons_zero, List.set_cons_succ] at M); (try simp only [Act.put, List.setIfInBounds_toArray, List.set_cons_zero, List.set_cons_succ])) | (refine wp_storeN M _ _ _ rfl _ rfl (by (repeat (first | exact Pick.head | apply Pick.tail)); done) (fun w => ⟨by first | (simp [go_sem]; done) | (simp [go_sem]; rfl), by first | (simp [go_sem]; done) | (simp [go_sem]; rfl)⟩) _ rfl (by rfl) (by rfl) ?_; clear M; intro w' M; (try simp only [] at M); (try simp only [Act.put, List.setIfInBounds_toArray, List.set_cons_zero, List.set_cons_succ]))) | ((with_reducible refine on_box ?_); refine wp_box M _ _ rfl _ (by first | exact CellsOf.agg _ | exact CellsOf.int _ _ | exact CellsOf.str _ | exact CellsOf.bool _ | exact CellsOf.slice _ _ _ | exact CellsOf.pointer _) ?_; clear M; intro g w' M; (try simp only [Act.put, List.setIfInBounds_toArray, List.set_cons_zero, List.set_cons_succ])) | ((with_reducible refine on_alloc ?_); refine wp_alloc M _ rfl _ (by simp [go_sem]; rfl) _ (by first | exact CellsOf.agg _ | exact CellsOf.int _ _ | exact CellsOf.str _ | exact CellsOf.bool _ | exact CellsOf.slice _ _ _ | exact CellsOf.pointer _) ?_; clear M; intro g w' M; (try simp only [Act.put, List.setIfInBounds_toArray, List.set_cons_zero, List.set_cons_succ]))) | go_values | go_skip | go_guarded | go_step | go_upon))
    exact ret_m1 rfl (Out.tmp rfl) rfl ⟨rfl, M.ext_of⟩
  | true =>
    have ho := HB.out.1 rfl
    have hfa := HA.out
    have hT := fitOf_t62 by_
    obtain ⟨a', ha'⟩ : ∃ a', fittedOf a = a' := ⟨_, rfl⟩
    have HFA : Hid (∀ w, Calls Try.prog 13 #[.agg #[iv a.event, iv a.opts, iv a.input, iv a.at_, iv a.attempt, iv a.phase, iv a.since, iv a.beat, iv a.detail, iv a.again]] w fun e w' => e = .returned (.agg a'.cells) ∧ Ext w w') := fun w => by
      have := fitted_law a w
      rw [ha'] at this
      exact this
    rw [ha'] at hfa
    obtain ⟨now, hnow⟩ : ∃ now, fitOf by_ = now := ⟨_, rfl⟩
    have HFIT : Hid (∀ w, Calls Try.prog 14 #[iv by_] w fun e w' => e = .returned (iv now) ∧ w' = w) := fun w => by
      have := fit_law by_ w
      rw [hnow] at this
      exact this
    rw [hnow] at hT
    obtain ⟨⟨b1, e1, x1⟩, hbr⟩ : ∃ r, brokenOf o a' att value now = r := ⟨_, rfl⟩
    obtain ⟨⟨b2, e2, x2⟩, hlt⟩ : ∃ r, lateOf o a' which now = r := ⟨_, rfl⟩
    have H1 : Hid (∀ w, Calls Try.prog 15 #[.agg o.cells, .agg a'.cells, iv att, iv value, iv now] w fun r w' => r = .returned (.tuple #[.agg b1.cells, .agg e1.cells, iv x1]) ∧ Ext w w') := fun w => by
      have := broken_any o ho a' hfa att value now hT w
      rw [hbr] at this
      exact this
    have H2 : Hid (∀ w, Calls Try.prog 16 #[.agg o.cells, .agg a'.cells, iv att, iv value, iv now] w fun r w' => r = .returned (.tuple #[.agg b1.cells, .agg e1.cells, iv x1]) ∧ Ext w w') := fun w => by
      have := broken_ref o ho a' hfa att value now hT w
      rw [hbr] at this
      exact this
    have H3 : Hid (∀ w, Calls Try.prog 17 #[.agg o.cells, .agg a'.cells, iv which, iv now] w fun r w' => r = .returned (.tuple #[.agg b2.cells, .agg e2.cells, iv x2]) ∧ Ext w w') := fun w => by
      have := late_any o ho a' hfa which now hT w
      rw [hlt] at this
      exact this
    have H4 : Hid (∀ w, Calls Try.prog 18 #[.agg o.cells, .agg a'.cells, iv which, iv now] w fun r w' => r = .returned (.tuple #[.agg b2.cells, .agg e2.cells, iv x2]) ∧ Ext w w') := fun w => by
      have := late_ref o ho a' hfa which now hT w
      rw [hlt] at this
      exact this
    have hq1 := act_same
    have hq2 := ev_same
    dsimp only [OptV.cells, ActV.cells, EvV.cells] at H1 H2 H3 H4 HFA
    clear hbr hlt ho hfa hT ha' hnow HA HB ha
    (try dsimp only); (repeat (first | (first | (go_at_call 13; (with_reducible refine (HFA.out _).mono ?_); rintro _ w1 ⟨rfl, hX⟩; replace M := M.ext hX; clear hX; dsimp only) | (go_at_call 14; (with_reducible refine (HFIT.out _).mono ?_); rintro _ w1 ⟨rfl, rfl⟩; dsimp only) | (go_at_call 15; (with_reducible refine (H1.out _).mono ?_); rintro _ w1 ⟨rfl, hX⟩; replace M := M.ext hX; clear hX; dsimp only) | (go_at_call 16; (with_reducible refine (H2.out _).mono ?_); rintro _ w1 ⟨rfl, hX⟩; replace M := M.ext hX; clear hX; dsimp only) | (go_at_call 17; (with_reducible refine (H3.out _).mono ?_); rintro _ w1 ⟨rfl, hX⟩; replace M := M.ext hX; clear hX; dsimp only) | (go_at_call 18; (with_reducible refine (H4.out _).mono ?_); rintro _ w1 ⟨rfl, hX⟩; replace M := M.ext hX; clear hX; dsimp only) | fail | ((with_reducible refine on_load ?_); first | (refine wp_load1 M _ _ rfl _ _ rfl (by (repeat (first | exact Pick.head | apply Pick.tail)); done) (fun w => ⟨by first | (simp [go_sem]; done) | (simp [go_sem]; rfl), by first | (simp [go_sem]; done) | (simp [go_sem]; rfl)⟩) _ (by rfl) ?_; (try simp only [Act.put, List.setIfInBounds_toArray, List.set_cons_zero, List.set_cons_succ])) | (refine wp_loadN M _ _ rfl _ rfl (by (repeat (first | exact Pick.head | apply Pick.tail)); done) (fun w => ⟨by first | (simp [go_sem]; done) | (simp [go_sem]; rfl), by first | (simp [go_sem]; done) | (simp [go_sem]; rfl)⟩) ?_; (try simp only [Act.put, List.setIfInBounds_toArray, List.set_cons_zero, List.set_cons_succ]))) | ((with_reducible refine on_store ?_); first | (refine wp_store1 M _ _ _ rfl _ _ rfl (by (repeat (first | exact Pick.head | apply Pick.tail)); done) (fun w => ⟨by first | (simp [go_sem]; done) | (simp [go_sem]; rfl), by first | (simp [go_sem]; done) | (simp [go_sem]; rfl)⟩) _ (by first | exact CellsOf.agg _ | exact CellsOf.int _ _ | exact CellsOf.str _ | exact CellsOf.bool _ | exact CellsOf.slice _ _ _ | exact CellsOf.pointer _) (by rfl) (by (simp; done)) ?_; clear M; intro w' M; (try simp only [List.set_cons_zero, List.set_cons_succ] at M); (try simp only [Act.put, List.setIfInBounds_toArray, List.set_cons_zero, List.set_cons_succ])) | (refine wp_storeN M _ _ _ rfl _ rfl (by (repeat (first | exact Pick.head | apply Pick.tail)); done) (fun w => ⟨by first | (simp [go_sem]; done) | (simp [go_sem]; rfl), by first | (simp [go_sem]; done) | (simp [go_sem]; rfl)⟩) _ rfl (by rfl) (by rfl) ?_; clear M; intro w' M; (try simp only [] at M); (try simp only [Act.put, List.setIfInBounds_toArray, List.set_cons_zero, List.set_cons_succ]))) | ((with_reducible refine on_box ?_); refine wp_box M _ _ rfl _ (by first | exact CellsOf.agg _ | exact CellsOf.int _ _ | exact CellsOf.str _ | exact CellsOf.bool _ | exact CellsOf.slice _ _ _ | exact CellsOf.pointer _) ?_; clear M; intro g w' M; (try simp only [Act.put, List.setIfInBounds_toArray, List.set_cons_zero, List.set_cons_succ])) | ((with_reducible refine on_alloc ?_); refine wp_alloc M _ rfl _ (by simp [go_sem]; rfl) _ (by first | exact CellsOf.agg _ | exact CellsOf.int _ _ | exact CellsOf.str _ | exact CellsOf.bool _ | exact CellsOf.slice _ _ _ | exact CellsOf.pointer _) ?_; clear M; intro g w' M; (try simp only [Act.put, List.setIfInBounds_toArray, List.set_cons_zero, List.set_cons_succ]))) | go_values | go_skip | go_guarded | go_step | go_upon))
    exact ret_m1 rfl (Out.tmp rfl) rfl ⟨rfl, M.ext_of⟩
end Go.Proofs.Ytjmdbgbkmjlmdaa
