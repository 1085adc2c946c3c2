/- Parts of this work, one behind the other: FiltYd. -/
import Derived.Test.YtkblkdnihppmnaaGreatDoorPku14
import Derived.Test.YtkblkdnihppmnaaGreatDoorPku20
/- Filters (layer 21): what a part holds of (walk, fifth part): a number. -/
namespace Go.Proofs.YtkblkdnihppmnaaGreatDoor
set_option linter.unusedSimpArgs false
set_option linter.unusedVariables false
open Go.RowKit Res Filt

def ordOf (v n : Int) : Int := if v < n then -1 else if n < v then 1 else 0
def fieldVals (a0 a1 a2 a4 a5 a6 a7 a8 a12 a13 a14 a15 a16 : Int) : List Int := [a0, a1, a2, a4, a5, a6, a7, a8, a12, a13, a14, a15, a16]
theorem place_field (f : Nat) (hf : f < 13) : placeOf fieldNums (fieldNames.getD f []) = (f : Int) := by
  have h : ((List.range 13).all fun f => decide (placeOf fieldNums (fieldNames.getD f []) = (f : Int))) = true := by decide
  have := List.all_eq_true.1 h f (List.mem_range.2 hf)
  simpa using this
/-- the fields, cell by cell -/
theorem fields_cells (a0 a1 a2 a4 a5 a6 a7 a8 a9 a10 a11 a12 a13 a14 a15 a16 : Int) (id : List UInt8) (w : World) :
    Calls Tryz.prog 138 #[.agg #[fi a0, fi a1, fi a2, str id, fi a4, fi a5, fi a6, fi a7, fi a8, fi a9, fi a10, fi a11, fi a12, fi a13, fi a14, fi a15, fi a16]] w fun e w' => ∃ b off c, e = .returned (.slice (some ⟨b, off, none⟩) 13 c) ∧ Ext w w' ∧ b < w'.heap.size ∧ ∀ (j : Nat) (v : Int), (fieldVals a0 a1 a2 a4 a5 a6 a7 a8 a12 a13 a14 a15 a16)[j]? = some v → w'.cell? ⟨b, off + j, none⟩ = some (fi v) := by
  refine (about_fields a0 a1 a2 a4 a5 a6 a7 a8 a9 a10 a11 a12 a13 a14 a15 a16 id w).mono fun e w' ⟨A, c, he, hX, hO⟩ => ?_
  obtain ⟨b, off, rfl, h1, h2, hc⟩ := hO.row.mem (by show 0 < 13; omega)
  refine ⟨b, off, c, he, hX, h2, fun j v hj => hc j (fi v) ?_⟩
  have e1 : (fieldVals a0 a1 a2 a4 a5 a6 a7 a8 a12 a13 a14 a15 a16).flatMap (fun x : Int => [fi x]) = (fieldVals a0 a1 a2 a4 a5 a6 a7 a8 a12 a13 a14 a15 a16).map fi := rfl
  show ((fieldVals a0 a1 a2 a4 a5 a6 a7 a8 a12 a13 a14 a15 a16).flatMap (fun x : Int => [fi x]))[j]? = _
  rw [e1, List.getElem?_map, hj]
  rfl
set_option maxRecDepth 100000 in
set_option maxHeartbeats 800000 in
theorem number_calls (f k : Nat) (hf : f < 13) (hk : k < 6) (n v : Int) (a0 a1 a2 a4 a5 a6 a7 a8 a9 a10 a11 a12 a13 a14 a15 a16 : Int) (id : List UInt8) (hv0 : (fieldVals a0 a1 a2 a4 a5 a6 a7 a8 a12 a13 a14 a15 a16)[f]? = some v) (w : World) (hN : Nv w) :
    Calls Tryz.prog 135 #[.agg #[str (fieldNames.getD f []), str (askNames.getD k []), fi n], .agg #[fi a0, fi a1, fi a2, str id, fi a4, fi a5, fi a6, fi a7, fi a8, fi a9, fi a10, fi a11, fi a12, fi a13, fi a14, fi a15, fi a16]] w fun e w' => e = .returned (.bool (cmpAsk k (ordOf v n))) ∧ Ext w w' := by
  have M := Mem.start w
  have HF := Lib.hid (fields_cells a0 a1 a2 a4 a5 a6 a7 a8 a9 a10 a11 a12 a13 a14 a15 a16 id)
  have HP : Hid (∀ w', Ext w w' → Calls Tryz.prog 72 #[str namesText, str (fieldNames.getD f [])] w' fun e w'' => e = .returned (fi (f : Int)) ∧ Ext w' w'') := Lib.hid (fun w' hX => by rw [← place_field f hf]; exact place_names _ w' (hN.ext hX))
  have HV := Lib.hid hv0
  have HS := Lib.hid (fun o w => compares_any k hk o w)
  generalize fieldNames.getD f [] = nm at HP ⊢
  generalize askNames.getD k [] = ask at HS ⊢
  clear hv0 hN hk
  have hcase : (decide (v < n) = true ∧ decide (n < v) = false ∧ ordOf v n = -1) ∨ (decide (v < n) = false ∧ decide (n < v) = true ∧ ordOf v n = 1) ∨ (decide (v < n) = false ∧ decide (n < v) = false ∧ ordOf v n = 0) := by
    unfold ordOf
    by_cases h1 : v < n
    · exact .inl ⟨by simpa using h1, by simp; omega, by rw [if_pos h1]⟩
    · by_cases h2 : n < v
      · exact .inr (.inl ⟨by simp; omega, by simpa using h2, by rw [if_neg h1, if_pos h2]⟩)
      · exact .inr (.inr ⟨by simp; omega, by simp; omega, by rw [if_neg h1, if_neg h2]⟩)
  rcases hcase with ⟨q1, q2, ho⟩ | ⟨q1, q2, ho⟩ | ⟨q1, q2, ho⟩
  all_goals
    rw [ho]
    clear ho
    go_enter Tryz.func135, Tryz.ntmps135
    (try dsimp only); (repeat (first | (first | fail | ((with_reducible refine on_load ?_); (first | refine xl1 M ?_ | refine xlN M ?_); go_big_move) | ((with_reducible refine on_store ?_); (first | refine xs1 M ?_ | refine xsN M ?_); clear M; intro w' M; (try simp only [List.set_cons_zero, List.set_cons_succ] at M)) | ((with_reducible refine on_box ?_); refine xb M ?_; clear M; intro g w' M; go_big_move) | ((with_reducible refine on_alloc ?_); refine xa M ?_; clear M; intro g w' M; go_big_move)) | go_values | go_skip | go_guarded | go_step | go_upon))
    ((with_reducible refine on_region 1 ?_); refine wp_region_keep M [3, 2] 8 [(0, true), (2, true), (3, true), (1, false), (4, false), (5, true), (6, false), (7, true)] (by kernel_rfl) (by kernel_rfl) (fun _ _ d _ _ h => by cases d <;> exact h) ?_; clear M; intro w' M; ((first | refine zl1 M 3 ?_ | refine zlN M 3 ?_); (first | simp only [Act.put, List.setIfInBounds_toArray, List.set_cons_zero, List.set_cons_succ] | skip)); ((refine wpSch_q ?_ rfl rfl (fun w' hR => ?_) ?_); rotate_left; (focus (go_simp; first | rfl | rw [if_neg (by simp; omega)] | rw [if_neg (by omega)] | rw [if_pos (by omega)] | (rw [if_pos (by omega)]; simp; done))); (first | simp only [Act.put, List.setIfInBounds_toArray, List.set_cons_zero, List.set_cons_succ] | skip)); ((first | refine zl1 M 2 ?_ | refine zlN M 2 ?_); (first | simp only [Act.put, List.setIfInBounds_toArray, List.set_cons_zero, List.set_cons_succ] | skip)); (refine wpSch_e rfl rfl (fun K hK => ?_); go_simp; refine (HF.out _).mono ?_; rintro _ w1 ⟨b, off, c, rfl, hX, hb, hc⟩; refine hK _ _ (fun _ => keepR.ext hX) ?_; replace M := M.ext hX; have hv := hc f v HV.out; clear hX hc; clear hK K; (first | simp only [Act.put, List.setIfInBounds_toArray, List.set_cons_zero, List.set_cons_succ] | skip)); (refine wpSch_e rfl rfl (fun K hK => ?_); go_simp; refine (HP.out _ M.ext_of).mono ?_; rintro _ w1 ⟨rfl, hX⟩; refine hK _ _ (fun _ => keepR.ext hX) ?_; replace M := M.ext hX; replace hv := (hX.cell (p := ⟨b, off + f, none⟩) hb).trans hv; clear hX; clear hK K; (first | simp only [Act.put, List.setIfInBounds_toArray, List.set_cons_zero, List.set_cons_succ] | skip)); ((refine wpSch_q ?_ rfl rfl (fun w' hR => ?_) ?_); rotate_left; (focus (go_simp; first | rfl | rw [if_neg (by simp; omega)] | rw [if_neg (by omega)] | rw [if_pos (by omega)] | (rw [if_pos (by omega)]; simp; done))); (first | simp only [Act.put, List.setIfInBounds_toArray, List.set_cons_zero, List.set_cons_succ] | skip)); (refine wpSch_e rfl rfl (fun K hK => ?_); refine wp_load1C _ _ rfl _ _ rfl _ (by first | exact hv | simpa using hv) (fun w => ⟨by first | (simp [go_sem]; done) | (simp [go_sem]; rfl), by first | (simp [go_sem]; done) | (simp [go_sem]; rfl)⟩) ?_; refine hK _ _ (fun _ => keepR.refl _) ?_; clear hK K; (first | simp only [Act.put, List.setIfInBounds_toArray, List.set_cons_zero, List.set_cons_succ] | skip)); ((refine wpSch_q ?_ rfl rfl (fun w' hR => ?_) ?_); rotate_left; (focus (go_simp; first | rfl | rw [if_neg (by simp; omega)] | rw [if_neg (by omega)] | rw [if_pos (by omega)] | (rw [if_pos (by omega)]; simp; done))); (first | simp only [Act.put, List.setIfInBounds_toArray, List.set_cons_zero, List.set_cons_succ] | skip)); refine wpSch_nil ?_)
    (try dsimp only); (repeat (first | (first | (go_at_call 131; (with_reducible refine (HS.out _ _).mono ?_); rintro _ w1 ⟨rfl, rfl⟩; dsimp only) | ((with_reducible refine wl_g ?_); first | go_big_want | go_skip | ((with_reducible refine wl_off (by kernel_rfl) ?_); (first | ((with_reducible refine fastK Tryz.prog rfl ?_); go_big_move) | (with_reducible refine fastN rfl ?_) | skip))) | ((with_reducible refine on_load ?_); (first | refine xl1 M ?_ | refine xlN M ?_); go_big_move) | ((with_reducible refine on_store ?_); (first | refine xs1 M ?_ | refine xsN M ?_); clear M; intro w' M; (try simp only [List.set_cons_zero, List.set_cons_succ] at M)) | ((with_reducible refine on_box ?_); refine xb M ?_; clear M; intro g w' M; go_big_move) | ((with_reducible refine on_alloc ?_); refine xa M ?_; clear M; intro g w' M; go_big_move)) | go_values | go_skip | go_guarded | go_step | go_upon))
    exact ret_m1 rfl (Out.tmp rfl) rfl ⟨rfl, M.ext_of⟩
end Go.Proofs.YtkblkdnihppmnaaGreatDoor
