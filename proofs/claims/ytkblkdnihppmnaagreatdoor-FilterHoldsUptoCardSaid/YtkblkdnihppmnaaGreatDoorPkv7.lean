/- Parts of this work, one behind the other: FiltP. -/
import Derived.Defers
import Derived.Recover
import Derived.Test.YtkblkdnihppmnaaGreatDoorPkv6
import Derived.Test.YtkblkdnihppmnaaGreatDoorPkv0
/- Filters (layer 21): the program's Parse (walk, first part): what it defers; a text of blanks; a filter that is nil or of nothing. -/
namespace Go.Proofs.YtkblkdnihppmnaaGreatDoor
set_option linter.unusedSimpArgs false
set_option linter.unusedVariables false
open Go.RowKit Res Filt

/-- the deferred function, where nothing was given up -/
theorem caught_idle (p q r : Addr) (w : World) :
    CallsD Tryz.prog 14 #[.pointer (some p), .pointer (some q), .pointer (some r)] .returning w fun e u' w' => e = .returned (.tuple #[]) ∧ u' = .returning ∧ w = w' := by
  refine callsD_of_wpS Tryz.func14 rfl fun c₀ cs hu => ?_
  apply wpS_seq
  apply wpS_region
  simp [wpOpsS, go_sem, recoverD, hu, Tryz.ntmps14, Exit.thenS]
  apply wpS_seq
  apply wpS_region
  simp [wpOpsS, go_sem, Exit.thenS]
  refine wpS_cond (t := false) (by simp [Act.eval, Array.replicate]) ?_
  simp only [Bool.false_eq_true, if_false]
  refine wpS_of_wp (wp_skip ?_)
  cases c₀
  simp_all [bodyPostS, results, Tryz.results14]
theorem stringsClone (s : List UInt8) (hs : s.length ≤ 1048576) (w : World) : Calls Tryz.prog 15 #[str s] w fun e w' => e = .returned (str s) ∧ Ext w w' := by
  have hz : (⟨s.toArray⟩ : ByteArray).size ≤ 281474976710656 := by show s.toArray.size ≤ _; simp; omega
  have HC := Lib.hid (Tryz.stringslite_Clone ⟨s.toArray⟩ w hz)
  go_enter Tryz.func15, Tryz.ntmps15
  go_wp2_with (go_at_call 28; (with_reducible refine (HC.out).mono ?_); rintro _ w1 ⟨rfl, hX⟩)
  go_ret
  exact ⟨rfl, hX⟩
theorem Mem.new_bx {w w' : World} {l : List Res} {g : Nat} {t : TypeId} {cs : List Value} {f : Res → List Res} (M : Mem (· < w.heap.size) w l w') (p : Pick l (bx g t cs) f) : w.heap.size ≤ g ∧ Box w' g t cs.toArray :=
  ⟨Nat.le_of_not_lt (M.out _ p.mem g rfl), M.box p⟩
theorem results3 {P : Program} {w : World} {fn : Func} {tmps : Array Value} {r0 r1 r2 : ResultVar} {v0 v1 v2 : Value} (hres : fn.results = #[r0, r1, r2]) (h0 : Out P tmps w r0 v0) (h1 : Out P tmps w r1 v1) (h2 : Out P tmps w r2 v2) : (results fn tmps).run P w = .ok (.tuple #[v0, v1, v2]) w := by
  cases r0 <;> cases r1 <;> cases r2 <;> simp [Out] at h0 h1 h2 <;> (try obtain ⟨p0, e0, h0⟩ := h0) <;> (try obtain ⟨p1, e1, h1⟩ := h1) <;> (try obtain ⟨p2, e2, h2⟩ := h2) <;> simp [results, hres, Sem.run_bind, asAddr, *]
set_option maxRecDepth 100000 in
set_option maxHeartbeats 800000 in
theorem holds_none (g : Nat) (av : List Value) (w : World) (hb : Box w g 53 #[.nilIface]) : Calls Tryz.prog 9 #[.pointer (some ⟨g, 0, none⟩), .agg av.toArray] w fun e w' => e = .returned (.bool true) ∧ Ext w w' := by
  have M := Mem.start w
  have hc : w.cell? ⟨g, 0, none⟩ = some .nilIface := by rw [hb.cell]; rfl
  have hbz : g < w.heap.size := hb.lt
  have q0 : ∀ w : World, (binOp BinOp.neq 22 (.pointer (some ⟨g, 0, none⟩)) (.pointer none)).run Tryz.prog w = .ok (.bool true) w := fun _ => by kernel_rfl
  have q1 : ∀ w : World, (binOp BinOp.eql 51 .nilIface .nilIface).run Tryz.prog w = .ok (.bool true) w := fun _ => by kernel_rfl
  clear hb
  go_enter Tryz.func9, Tryz.ntmps9
  (try dsimp only); (repeat (first | (first | ((with_reducible refine on_region 1 ?_); refine wp_region_keepX M [0, 3] 18 [(0, true), (1, true), (2, true), (3, true), (4, true), (5, true), (6, true), (7, true), (8, true), (9, true), (10, true), (11, true), (12, true), (13, true), (14, false), (15, true), (16, true), (17, true)] (by kernel_rfl) (by kernel_rfl) (fun _ _ d _ _ h => by cases d <;> exact h) ?_; clear M; intro w' M; (iterate 3 ((refine wpSch_q ?_ rfl rfl (fun w' hR => ?_) ?_); rotate_left; (focus (go_simp; first | rfl | rw [if_neg (by simp; omega)] | rw [if_neg (by omega)] | rw [if_pos (by omega)] | (rw [if_pos (by omega)]; simp; done))); (first | simp only [Act.put, List.setIfInBounds_toArray, List.set_cons_zero, List.set_cons_succ] | skip))); (iterate 3 (first | ((refine wpSch_skip (fun _ => keepX.refl _) rfl rfl ?_); (first | simp only [Act.put, List.setIfInBounds_toArray, List.set_cons_zero, List.set_cons_succ] | skip)) | ((refine wpSch_q ?_ rfl rfl (fun w' hR => ?_) ?_); rotate_left; (focus (go_simp; first | rfl | rw [if_neg (by simp; omega)] | rw [if_neg (by omega)] | rw [if_pos (by omega)] | (rw [if_pos (by omega)]; simp; done))); (first | simp only [Act.put, List.setIfInBounds_toArray, List.set_cons_zero, List.set_cons_succ] | skip)))); (first | ((refine wpSch_skip (fun _ => keepX.refl _) rfl rfl ?_); (first | simp only [Act.put, List.setIfInBounds_toArray, List.set_cons_zero, List.set_cons_succ] | skip)) | (first | (refine sch_load1XG M 0 rfl rfl (by decide) _ _ rfl _ rfl pk (fun w => ⟨by first | (simp [go_sem]; done) | (simp [go_sem]; rfl), by first | (simp [go_sem]; done) | (simp [go_sem]; rfl)⟩) _ (by rfl) ?_; (first | simp only [Act.put, List.setIfInBounds_toArray, List.set_cons_zero, List.set_cons_succ] | skip)) | (refine sch_loadNXG M 0 rfl rfl (by decide) _ _ rfl rfl pk (fun w => ⟨by first | (simp [go_sem]; done) | (simp [go_sem]; rfl), by first | (simp [go_sem]; done) | (simp [go_sem]; rfl)⟩) ?_; (first | simp only [Act.put, List.setIfInBounds_toArray, List.set_cons_zero, List.set_cons_succ] | skip)) | (refine sch_cellXG rfl rfl _ _ rfl _ (M.far hc) (by assumption) (fun w => ⟨by first | (simp [go_sem]; done) | (simp [go_sem]; rfl), by first | (simp [go_sem]; done) | (simp [go_sem]; rfl)⟩) ?_; (first | simp only [Act.put, List.setIfInBounds_toArray, List.set_cons_zero, List.set_cons_succ] | skip)))); (iterate 5 (first | ((refine wpSch_skip (fun _ => keepX.refl _) rfl rfl ?_); (first | simp only [Act.put, List.setIfInBounds_toArray, List.set_cons_zero, List.set_cons_succ] | skip)) | ((refine wpSch_q ?_ rfl rfl (fun w' hR => ?_) ?_); rotate_left; (focus (go_simp; first | rfl | rw [if_neg (by simp; omega)] | rw [if_neg (by omega)] | rw [if_pos (by omega)] | (rw [if_pos (by omega)]; simp; done))); (first | simp only [Act.put, List.setIfInBounds_toArray, List.set_cons_zero, List.set_cons_succ] | skip)))); (first | ((refine wpSch_skip (fun _ => keepX.refl _) rfl rfl ?_); (first | simp only [Act.put, List.setIfInBounds_toArray, List.set_cons_zero, List.set_cons_succ] | skip)) | (first | (refine sch_load1XG M 0 rfl rfl (by decide) _ _ rfl _ rfl pk (fun w => ⟨by first | (simp [go_sem]; done) | (simp [go_sem]; rfl), by first | (simp [go_sem]; done) | (simp [go_sem]; rfl)⟩) _ (by rfl) ?_; (first | simp only [Act.put, List.setIfInBounds_toArray, List.set_cons_zero, List.set_cons_succ] | skip)) | (refine sch_loadNXG M 0 rfl rfl (by decide) _ _ rfl rfl pk (fun w => ⟨by first | (simp [go_sem]; done) | (simp [go_sem]; rfl), by first | (simp [go_sem]; done) | (simp [go_sem]; rfl)⟩) ?_; (first | simp only [Act.put, List.setIfInBounds_toArray, List.set_cons_zero, List.set_cons_succ] | skip)) | (refine sch_cellXG rfl rfl _ _ rfl _ (M.far hc) (by assumption) (fun w => ⟨by first | (simp [go_sem]; done) | (simp [go_sem]; rfl), by first | (simp [go_sem]; done) | (simp [go_sem]; rfl)⟩) ?_; (first | simp only [Act.put, List.setIfInBounds_toArray, List.set_cons_zero, List.set_cons_succ] | skip)))); (first | ((refine wpSch_skip (fun _ => keepX.refl _) rfl rfl ?_); (first | simp only [Act.put, List.setIfInBounds_toArray, List.set_cons_zero, List.set_cons_succ] | skip)) | (first | (refine sch_load1XG M 3 rfl rfl (by decide) _ _ rfl _ rfl pk (fun w => ⟨by first | (simp [go_sem]; done) | (simp [go_sem]; rfl), by first | (simp [go_sem]; done) | (simp [go_sem]; rfl)⟩) _ (by rfl) ?_; (first | simp only [Act.put, List.setIfInBounds_toArray, List.set_cons_zero, List.set_cons_succ] | skip)) | (refine sch_loadNXG M 3 rfl rfl (by decide) _ _ rfl rfl pk (fun w => ⟨by first | (simp [go_sem]; done) | (simp [go_sem]; rfl), by first | (simp [go_sem]; done) | (simp [go_sem]; rfl)⟩) ?_; (first | simp only [Act.put, List.setIfInBounds_toArray, List.set_cons_zero, List.set_cons_succ] | skip)) | (refine sch_cellXG rfl rfl _ _ rfl _ (M.far hc) (by assumption) (fun w => ⟨by first | (simp [go_sem]; done) | (simp [go_sem]; rfl), by first | (simp [go_sem]; done) | (simp [go_sem]; rfl)⟩) ?_; (first | simp only [Act.put, List.setIfInBounds_toArray, List.set_cons_zero, List.set_cons_succ] | skip)))); ((refine wpSch_skip (fun _ => keepX.refl _) rfl rfl ?_); (first | simp only [Act.put, List.setIfInBounds_toArray, List.set_cons_zero, List.set_cons_succ] | skip)); (first | ((refine wpSch_skip (fun _ => keepX.refl _) rfl rfl ?_); (first | simp only [Act.put, List.setIfInBounds_toArray, List.set_cons_zero, List.set_cons_succ] | skip)) | ((refine wpSch_q ?_ rfl rfl (fun w' hR => ?_) ?_); rotate_left; (focus (go_simp; first | rfl | rw [if_neg (by simp; omega)] | rw [if_neg (by omega)] | rw [if_pos (by omega)] | (rw [if_pos (by omega)]; simp; done))); (first | simp only [Act.put, List.setIfInBounds_toArray, List.set_cons_zero, List.set_cons_succ] | skip))); (iterate 2 ((refine wpSch_q ?_ rfl rfl (fun w' hR => ?_) ?_); rotate_left; (focus (go_simp; first | rfl | rw [if_neg (by simp; omega)] | rw [if_neg (by omega)] | rw [if_pos (by omega)] | (rw [if_pos (by omega)]; simp; done))); (first | simp only [Act.put, List.setIfInBounds_toArray, List.set_cons_zero, List.set_cons_succ] | skip))); refine wpSch_nil ?_) | ((with_reducible refine on_load ?_); (first | refine xl1 M ?_ | refine xlN M ?_); go_big_move) | ((with_reducible refine on_box ?_); refine xb M ?_; clear M; intro g w' M; go_big_move)) | go_values | go_skip | go_guarded | go_step | go_upon))
  exact ret_m1 rfl (Out.tmp rfl) rfl ⟨rfl, M.ext_of⟩
set_option maxRecDepth 100000 in
set_option maxHeartbeats 800000 in
theorem text_none (g : Nat) (w : World) (hb : Box w g 53 #[.nilIface]) : Calls Tryz.prog 11 #[.pointer (some ⟨g, 0, none⟩)] w fun e w' => e = .returned (str []) ∧ w = w' := by
  have M := Mem.start w
  have hc : w.cell? ⟨g, 0, none⟩ = some .nilIface := by rw [hb.cell]; rfl
  have HC := Lib.hid hc
  have q0 : ∀ w : World, (binOp BinOp.eql 22 (.pointer (some ⟨g, 0, none⟩)) (.pointer none)).run Tryz.prog w = .ok (.bool false) w := fun _ => by kernel_rfl
  have q1 : ∀ w : World, (binOp BinOp.eql 51 .nilIface .nilIface).run Tryz.prog w = .ok (.bool true) w := fun _ => by kernel_rfl
  clear hb hc
  go_enter Tryz.func11, Tryz.ntmps11
  (try dsimp only); (repeat (first | (first | ((with_reducible refine on_load ?_); refine xlC HC.out ?_; go_big_move) | ((with_reducible refine wl_g ?_); first | go_big_want | go_skip | ((with_reducible refine wl_off (by kernel_rfl) ?_); (first | ((with_reducible refine fastK Tryz.prog rfl ?_); go_big_move) | (with_reducible refine fastN rfl ?_) | skip))) | ((with_reducible refine on_load ?_); (first | refine xl1 M ?_ | refine xlN M ?_); go_big_move)) | go_values | go_skip | go_guarded | go_step | go_upon))
  exact ret_m1 rfl (Out.tmp rfl) rfl ⟨rfl, rfl⟩
end Go.Proofs.YtkblkdnihppmnaaGreatDoor
