/- Parts of this work, one behind the other: FiltYd, FiltYe, Fcard, Rfk, FiltZ. -/
import Derived.Test.YtkblkdnihppmnaaGreatDoorPkv12
import Derived.Test.YtkblkdnihppmnaaGreatDoorPkv14
import Derived.Test.YtkblkdnihppmnaaGreatDoorPkv13
import Derived.Test.YtkblkdnihppmnaaGreatDoorPkv5
import Derived.Test.YtkblkdnihppmnaaGreatDoorPkv0
import Derived.Test.YtkblkdnihppmnaaGreatDoorPkv15
/- Filters (layer 21): what a part holds of (walk, fifth part): a number. -/
namespace Go.Proofs.YtkblkdnihppmnaaGreatDoor
set_option linter.unusedSimpArgs false
set_option linter.unusedVariables false
open Go.RowKit Res Filt

def ordOf (v n : Int) : Int := if v < n then -1 else if n < v then 1 else 0
def fieldVals (a0 a1 a2 a4 a5 a6 a7 a8 a12 a13 a14 a15 a16 : Int) : List Int := [a0, a1, a2, a4, a5, a6, a7, a8, a12, a13, a14, a15, a16]
theorem place_field (f : Nat) (hf : f < 13) : placeOf fieldNums (fieldNames.getD f []) = (f : Int) := by
  have h : ((List.range 13).all fun f => decide (placeOf fieldNums (fieldNames.getD f []) = (f : Int))) = true := by decide
  have := List.all_eq_true.1 h f (List.mem_range.2 hf)
  simpa using this
/-- the fields, cell by cell -/
theorem fields_cells (a0 a1 a2 a4 a5 a6 a7 a8 a9 a10 a11 a12 a13 a14 a15 a16 : Int) (id : List UInt8) (w : World) :
    Calls Tryz.prog 138 #[.agg #[fi a0, fi a1, fi a2, str id, fi a4, fi a5, fi a6, fi a7, fi a8, fi a9, fi a10, fi a11, fi a12, fi a13, fi a14, fi a15, fi a16]] w fun e w' => ∃ b off c, e = .returned (.slice (some ⟨b, off, none⟩) 13 c) ∧ Ext w w' ∧ b < w'.heap.size ∧ ∀ (j : Nat) (v : Int), (fieldVals a0 a1 a2 a4 a5 a6 a7 a8 a12 a13 a14 a15 a16)[j]? = some v → w'.cell? ⟨b, off + j, none⟩ = some (fi v) := by
  refine (about_fields a0 a1 a2 a4 a5 a6 a7 a8 a9 a10 a11 a12 a13 a14 a15 a16 id w).mono fun e w' ⟨A, c, he, hX, hO⟩ => ?_
  obtain ⟨b, off, rfl, h1, h2, hc⟩ := hO.row.mem (by show 0 < 13; omega)
  refine ⟨b, off, c, he, hX, h2, fun j v hj => hc j (fi v) ?_⟩
  have e1 : (fieldVals a0 a1 a2 a4 a5 a6 a7 a8 a12 a13 a14 a15 a16).flatMap (fun x : Int => [fi x]) = (fieldVals a0 a1 a2 a4 a5 a6 a7 a8 a12 a13 a14 a15 a16).map fi := rfl
  show ((fieldVals a0 a1 a2 a4 a5 a6 a7 a8 a12 a13 a14 a15 a16).flatMap (fun x : Int => [fi x]))[j]? = _
  rw [e1, List.getElem?_map, hj]
  rfl
set_option maxRecDepth 100000 in
set_option maxHeartbeats 800000 in
theorem number_calls (f k : Nat) (hf : f < 13) (hk : k < 6) (n v : Int) (a0 a1 a2 a4 a5 a6 a7 a8 a9 a10 a11 a12 a13 a14 a15 a16 : Int) (id : List UInt8) (hv0 : (fieldVals a0 a1 a2 a4 a5 a6 a7 a8 a12 a13 a14 a15 a16)[f]? = some v) (w : World) (hN : Nv w) :
    Calls Tryz.prog 135 #[.agg #[str (fieldNames.getD f []), str (askNames.getD k []), fi n], .agg #[fi a0, fi a1, fi a2, str id, fi a4, fi a5, fi a6, fi a7, fi a8, fi a9, fi a10, fi a11, fi a12, fi a13, fi a14, fi a15, fi a16]] w fun e w' => e = .returned (.bool (cmpAsk k (ordOf v n))) ∧ Ext w w' := by
  have M := Mem.start w
  have HF := Lib.hid (fields_cells a0 a1 a2 a4 a5 a6 a7 a8 a9 a10 a11 a12 a13 a14 a15 a16 id)
  have HP : Hid (∀ w', Ext w w' → Calls Tryz.prog 72 #[str namesText, str (fieldNames.getD f [])] w' fun e w'' => e = .returned (fi (f : Int)) ∧ Ext w' w'') := Lib.hid (fun w' hX => by rw [← place_field f hf]; exact place_names _ w' (hN.ext hX))
  have HV := Lib.hid hv0
  have HS := Lib.hid (fun o w => compares_any k hk o w)
  generalize fieldNames.getD f [] = nm at HP ⊢
  generalize askNames.getD k [] = ask at HS ⊢
  clear hv0 hN hk
  have hcase : (decide (v < n) = true ∧ decide (n < v) = false ∧ ordOf v n = -1) ∨ (decide (v < n) = false ∧ decide (n < v) = true ∧ ordOf v n = 1) ∨ (decide (v < n) = false ∧ decide (n < v) = false ∧ ordOf v n = 0) := by
    unfold ordOf
    by_cases h1 : v < n
    · exact .inl ⟨by simpa using h1, by simp; omega, by rw [if_pos h1]⟩
    · by_cases h2 : n < v
      · exact .inr (.inl ⟨by simp; omega, by simpa using h2, by rw [if_neg h1, if_pos h2]⟩)
      · exact .inr (.inr ⟨by simp; omega, by simp; omega, by rw [if_neg h1, if_neg h2]⟩)
  rcases hcase with ⟨q1, q2, ho⟩ | ⟨q1, q2, ho⟩ | ⟨q1, q2, ho⟩
  all_goals
    rw [ho]
    clear ho
    go_enter Tryz.func135, Tryz.ntmps135
    (try dsimp only); (repeat (first | (first | fail | ((with_reducible refine on_load ?_); (first | refine xl1 M ?_ | refine xlN M ?_); go_big_move) | ((with_reducible refine on_box ?_); refine xb M ?_; clear M; intro g w' M; go_big_move)) | go_values | go_skip | go_guarded | go_step | go_upon))
    ((with_reducible refine on_region 1 ?_); refine wp_region_keep M [3, 2] 8 [(0, true), (2, true), (3, true), (1, false), (4, false), (5, true), (6, false), (7, true)] (by kernel_rfl) (by kernel_rfl) (fun _ _ d _ _ h => by cases d <;> exact h) ?_; clear M; intro w' M; ((first | refine zl1 M 3 ?_ | refine zlN M 3 ?_); (first | simp only [Act.put, List.setIfInBounds_toArray, List.set_cons_zero, List.set_cons_succ] | skip)); ((refine wpSch_q ?_ rfl rfl (fun w' hR => ?_) ?_); rotate_left; (focus (go_simp; first | rfl | rw [if_neg (by simp; omega)] | rw [if_neg (by omega)] | rw [if_pos (by omega)] | (rw [if_pos (by omega)]; simp; done))); (first | simp only [Act.put, List.setIfInBounds_toArray, List.set_cons_zero, List.set_cons_succ] | skip)); ((first | refine zl1 M 2 ?_ | refine zlN M 2 ?_); (first | simp only [Act.put, List.setIfInBounds_toArray, List.set_cons_zero, List.set_cons_succ] | skip)); (refine wpSch_e rfl rfl (fun K hK => ?_); go_simp; refine (HF.out _).mono ?_; rintro _ w1 ⟨b, off, c, rfl, hX, hb, hc⟩; refine hK _ _ (fun _ => keepR.ext hX) ?_; replace M := M.ext hX; have hv := hc f v HV.out; clear hX hc; clear hK K; (first | simp only [Act.put, List.setIfInBounds_toArray, List.set_cons_zero, List.set_cons_succ] | skip)); (refine wpSch_e rfl rfl (fun K hK => ?_); go_simp; refine (HP.out _ M.ext_of).mono ?_; rintro _ w1 ⟨rfl, hX⟩; refine hK _ _ (fun _ => keepR.ext hX) ?_; replace M := M.ext hX; replace hv := (hX.cell (p := ⟨b, off + f, none⟩) hb).trans hv; clear hX; clear hK K; (first | simp only [Act.put, List.setIfInBounds_toArray, List.set_cons_zero, List.set_cons_succ] | skip)); ((refine wpSch_q ?_ rfl rfl (fun w' hR => ?_) ?_); rotate_left; (focus (go_simp; first | rfl | rw [if_neg (by simp; omega)] | rw [if_neg (by omega)] | rw [if_pos (by omega)] | (rw [if_pos (by omega)]; simp; done))); (first | simp only [Act.put, List.setIfInBounds_toArray, List.set_cons_zero, List.set_cons_succ] | skip)); (refine wpSch_e rfl rfl (fun K hK => ?_); refine wp_load1C _ _ rfl _ _ rfl _ (by first | exact hv | simpa using hv) (fun w => ⟨by first | (simp [go_sem]; done) | (simp [go_sem]; rfl), by first | (simp [go_sem]; done) | (simp [go_sem]; rfl)⟩) ?_; refine hK _ _ (fun _ => keepR.refl _) ?_; clear hK K; (first | simp only [Act.put, List.setIfInBounds_toArray, List.set_cons_zero, List.set_cons_succ] | skip)); ((refine wpSch_q ?_ rfl rfl (fun w' hR => ?_) ?_); rotate_left; (focus (go_simp; first | rfl | rw [if_neg (by simp; omega)] | rw [if_neg (by omega)] | rw [if_pos (by omega)] | (rw [if_pos (by omega)]; simp; done))); (first | simp only [Act.put, List.setIfInBounds_toArray, List.set_cons_zero, List.set_cons_succ] | skip)); refine wpSch_nil ?_)
    (try dsimp only); (repeat (first | (first | (go_at_call 131; (with_reducible refine (HS.out _ _).mono ?_); rintro _ w1 ⟨rfl, rfl⟩; dsimp only) | ((with_reducible refine on_load ?_); (first | refine xl1 M ?_ | refine xlN M ?_); go_big_move) | ((with_reducible refine on_box ?_); refine xb M ?_; clear M; intro g w' M; go_big_move)) | go_values | go_skip | go_guarded | go_step | go_upon))
    exact ret_m1 rfl (Out.tmp rfl) rfl ⟨rfl, M.ext_of⟩
end Go.Proofs.YtkblkdnihppmnaaGreatDoor
/- Filters (layer 21): what a part holds of (walk, sixth part): every part. -/
namespace Go.Proofs.YtkblkdnihppmnaaGreatDoor
set_option linter.unusedSimpArgs false
set_option linter.unusedVariables false
open Go.RowKit Res Filt

/-- a run as it is told -/
structure Abt where
  (a0 a1 a2 a4 a5 a6 a7 a8 a9 a10 a11 a12 a13 a14 a15 a16 : Int)
  id : List UInt8
def Abt.vals (a : Abt) : List Int := fieldVals a.a0 a.a1 a.a2 a.a4 a.a5 a.a6 a.a7 a.a8 a.a12 a.a13 a.a14 a.a15 a.a16
def Abt.cells (a : Abt) : List Value := [fi a.a0, fi a.a1, fi a.a2, str a.id, fi a.a4, fi a.a5, fi a.a6, fi a.a7, fi a.a8, fi a.a9, fi a.a10, fi a.a11, fi a.a12, fi a.a13, fi a.a14, fi a.a15, fi a.a16]
def numB (a : Abt) (f k : Nat) (n : Int) : Bool := cmpAsk k (ordOf (a.vals.getD f 0) n)
def idtB (a : Abt) (k : Nat) (t : List UInt8) : Bool := cmpAsk k (Lib.compareBytes a.id t)
theorem holds_node (a : Abt) : ∀ n : Nd, Valid n → HoldsIs (numB a) (idtB a) a.cells n
  | .num f k n, h => fun w hN => by
    have hl : f < a.vals.length := h.1
    have hv : a.vals[f]? = some (a.vals.getD f 0) := by rw [List.getD_eq_getElem?_getD, List.getElem?_eq_getElem hl]; rfl
    exact number_calls f k h.1 h.2.1 n (a.vals.getD f 0) a.a0 a.a1 a.a2 a.a4 a.a5 a.a6 a.a7 a.a8 a.a9 a.a10 a.a11 a.a12 a.a13 a.a14 a.a15 a.a16 a.id hv w hN
  | .idt k t, h => fun w _ => named_calls k h.1 t a.id _ _ _ _ _ _ _ _ _ _ _ _ _ _ _ _ w
  | .not n, h => not_holds _ _ _ _ _ _ _ _ _ _ _ _ _ _ _ _ _ _ _ n (holds_node a n h)
  | .all n m, h => all_holds _ _ _ _ _ _ _ _ _ _ _ _ _ _ _ _ _ _ _ n m (holds_node a n h.1) (holds_node a m h.2)
  | .any n m, h => any_holds _ _ _ _ _ _ _ _ _ _ _ _ _ _ _ _ _ _ _ n m (holds_node a n h.1) (holds_node a m h.2)
end Go.Proofs.YtkblkdnihppmnaaGreatDoor
/- Filters (layer 21): a run as an argument; the program's variables lie lowest. -/
namespace Go.Proofs.YtkblkdnihppmnaaGreatDoor
set_option linter.unusedSimpArgs false
set_option linter.unusedVariables false
open Go.RowKit Go.Deep

theorem shaped_glob {W : World} (h : W.ShapedOpen Tryz.prog) : Tryz.prog.globals.size ≤ W.heap.size := by
  obtain ⟨o, o0, h1, -⟩ := h.2 Tryz.prog.globals.size (Nat.le_refl _) (of_decide_eq_true (by kernel_rfl))
  exact Nat.le_of_lt (Array.getElem?_eq_some_iff.1 h1).1
theorem list17 {α : Type} {xs : List α} (h : xs.length = 17) : ∃ a b c d e f g i j k l m n o p q r, xs = [a, b, c, d, e, f, g, i, j, k, l, m, n, o, p, q, r] := by
  match xs, h with
  | [a, b, c, d, e, f, g, i, j, k, l, m, n, o, p, q, r], _ => exact ⟨a, b, c, d, e, f, g, i, j, k, l, m, n, o, p, q, r, rfl⟩
theorem about_under : Tryz.prog.underlying 33 = some (.struct (Tryz.prog.fieldsOf 33)) := by kernel_rfl
theorem read_about {H : Type} {enc : TypeId × Value → H} {w : World} {base : Nat} {spare : Nat → Bool} {held : Bool} {fuel : Nat} {cs : List Value} {x : DataW H × List MemPlace} (h : DataW.trod enc Tryz.prog w base spare held fuel 33 cs = some x) :
    ∃ a : Abt, cs = a.cells := by
  have hl := fld_len about_under h
  rw [show Tryz.prog.cellsOf 33 = 17 by kernel_rfl] at hl
  obtain ⟨c0, c1, c2, c3, c4, c5, c6, c7, c8, c9, c10, c11, c12, c13, c14, c15, c16, rfl⟩ := list17 hl
  obtain ⟨n0, rfl⟩ := fld_int about_under h 0 0 (by kernel_rfl) (by kernel_rfl) (by kernel_rfl) (by kernel_rfl) rfl
  obtain ⟨n1, rfl⟩ := fld_int about_under h 1 1 (by kernel_rfl) (by kernel_rfl) (by kernel_rfl) (by kernel_rfl) rfl
  obtain ⟨n2, rfl⟩ := fld_int about_under h 2 2 (by kernel_rfl) (by kernel_rfl) (by kernel_rfl) (by kernel_rfl) rfl
  obtain ⟨n3, rfl⟩ := fld_str about_under h 3 3 (by kernel_rfl) (by kernel_rfl) (by kernel_rfl) (by kernel_rfl) rfl
  obtain ⟨n4, rfl⟩ := fld_int about_under h 4 4 (by kernel_rfl) (by kernel_rfl) (by kernel_rfl) (by kernel_rfl) rfl
  obtain ⟨n5, rfl⟩ := fld_int about_under h 5 5 (by kernel_rfl) (by kernel_rfl) (by kernel_rfl) (by kernel_rfl) rfl
  obtain ⟨n6, rfl⟩ := fld_int about_under h 6 6 (by kernel_rfl) (by kernel_rfl) (by kernel_rfl) (by kernel_rfl) rfl
  obtain ⟨n7, rfl⟩ := fld_int about_under h 7 7 (by kernel_rfl) (by kernel_rfl) (by kernel_rfl) (by kernel_rfl) rfl
  obtain ⟨n8, rfl⟩ := fld_int about_under h 8 8 (by kernel_rfl) (by kernel_rfl) (by kernel_rfl) (by kernel_rfl) rfl
  obtain ⟨n9, rfl⟩ := fld_int about_under h 9 9 (by kernel_rfl) (by kernel_rfl) (by kernel_rfl) (by kernel_rfl) rfl
  obtain ⟨n10, rfl⟩ := fld_int about_under h 10 10 (by kernel_rfl) (by kernel_rfl) (by kernel_rfl) (by kernel_rfl) rfl
  obtain ⟨n11, rfl⟩ := fld_int about_under h 11 11 (by kernel_rfl) (by kernel_rfl) (by kernel_rfl) (by kernel_rfl) rfl
  obtain ⟨n12, rfl⟩ := fld_int about_under h 12 12 (by kernel_rfl) (by kernel_rfl) (by kernel_rfl) (by kernel_rfl) rfl
  obtain ⟨n13, rfl⟩ := fld_ints (n := 4) (e := 2) about_under h 13 13 (by kernel_rfl) (by kernel_rfl) (by kernel_rfl) (by kernel_rfl) (by kernel_rfl) (by kernel_rfl) 0 (by omega) rfl
  obtain ⟨n14, rfl⟩ := fld_ints (n := 4) (e := 2) about_under h 13 13 (by kernel_rfl) (by kernel_rfl) (by kernel_rfl) (by kernel_rfl) (by kernel_rfl) (by kernel_rfl) 1 (by omega) rfl
  obtain ⟨n15, rfl⟩ := fld_ints (n := 4) (e := 2) about_under h 13 13 (by kernel_rfl) (by kernel_rfl) (by kernel_rfl) (by kernel_rfl) (by kernel_rfl) (by kernel_rfl) 2 (by omega) rfl
  obtain ⟨n16, rfl⟩ := fld_ints (n := 4) (e := 2) about_under h 13 13 (by kernel_rfl) (by kernel_rfl) (by kernel_rfl) (by kernel_rfl) (by kernel_rfl) (by kernel_rfl) 3 (by omega) rfl
  exact ⟨⟨n0, n1, n2, n4, n5, n6, n7, n8, n9, n10, n11, n12, n13, n14, n15, n16, n3⟩, rfl⟩
end Go.Proofs.YtkblkdnihppmnaaGreatDoor
/- Filters (layer 21): a token, cell by cell. -/
namespace Go.Proofs.YtkblkdnihppmnaaGreatDoor
set_option linter.unusedSimpArgs false
set_option linter.unusedVariables false
open Go.RowKit Res Filt
theorem tk_eq {k a b b' : Int} {t t' : List UInt8} (hb : b = b') (ht : t = t') : Ending.returned (.agg [fi k, fi a, fi b, str t].toArray) = Ending.returned (.agg #[fi k, fi a, fi b', str t']) := by subst hb ht; rfl
end Go.Proofs.YtkblkdnihppmnaaGreatDoor
/- Filters (layer 21): a part's text (walk, first part): ranks, within. -/
namespace Go.Proofs.YtkblkdnihppmnaaGreatDoor
set_option linter.unusedSimpArgs false
set_option linter.unusedVariables false
open Go.RowKit Res Filt

def rankF : Nd → FuncId
  | .num .. => 136
  | .idt .. => 129
  | .not .. => 126
  | .all .. => 120
  | .any .. => 117
theorem rank_any (n : Nd) (w : World) : Calls Tryz.prog (rankF n) #[payV n] w fun e w' => e = .returned (fi (rankOf n : Nat)) ∧ Ext w w' := by
  have M := Mem.start w
  cases n with
  | num f k v =>
    show Calls Tryz.prog 136 #[.agg #[_, _, _]] w fun e w' => e = .returned (fi 2) ∧ Ext w w'
    go_enter Tryz.func136, Tryz.ntmps136
    (try dsimp only); (repeat (first | (first | ((with_reducible refine wl_g ?_); first | go_big_want | go_skip | ((with_reducible refine wl_off (by kernel_rfl) ?_); (first | ((with_reducible refine fastK Tryz.prog rfl ?_); go_big_move) | (with_reducible refine fastN rfl ?_) | skip))) | ((with_reducible refine on_load ?_); (first | refine xl1 M ?_ | refine xlN M ?_); go_big_move) | ((with_reducible refine on_store ?_); (first | refine xs1 M ?_ | refine xsN M ?_); clear M; intro w' M; (try simp only [List.set_cons_zero, List.set_cons_succ] at M)) | ((with_reducible refine on_box ?_); refine xb M ?_; clear M; intro g w' M; go_big_move) | ((with_reducible refine on_alloc ?_); refine xa M ?_; clear M; intro g w' M; go_big_move)) | go_values | go_skip | go_guarded | go_step | go_upon))
    exact ret_m1 rfl (Out.tmp rfl) rfl ⟨rfl, M.ext_of⟩
  | idt k t =>
    show Calls Tryz.prog 129 #[.agg #[_, _]] w fun e w' => e = .returned (fi 2) ∧ Ext w w'
    go_enter Tryz.func129, Tryz.ntmps129
    (try dsimp only); (repeat (first | (first | ((with_reducible refine wl_g ?_); first | go_big_want | go_skip | ((with_reducible refine wl_off (by kernel_rfl) ?_); (first | ((with_reducible refine fastK Tryz.prog rfl ?_); go_big_move) | (with_reducible refine fastN rfl ?_) | skip))) | ((with_reducible refine on_load ?_); (first | refine xl1 M ?_ | refine xlN M ?_); go_big_move) | ((with_reducible refine on_store ?_); (first | refine xs1 M ?_ | refine xsN M ?_); clear M; intro w' M; (try simp only [List.set_cons_zero, List.set_cons_succ] at M)) | ((with_reducible refine on_box ?_); refine xb M ?_; clear M; intro g w' M; go_big_move) | ((with_reducible refine on_alloc ?_); refine xa M ?_; clear M; intro g w' M; go_big_move)) | go_values | go_skip | go_guarded | go_step | go_upon))
    exact ret_m1 rfl (Out.tmp rfl) rfl ⟨rfl, M.ext_of⟩
  | not n =>
    show Calls Tryz.prog 126 #[.agg #[_]] w fun e w' => e = .returned (fi 2) ∧ Ext w w'
    go_enter Tryz.func126, Tryz.ntmps126
    (try dsimp only); (repeat (first | (first | ((with_reducible refine wl_g ?_); first | go_big_want | go_skip | ((with_reducible refine wl_off (by kernel_rfl) ?_); (first | ((with_reducible refine fastK Tryz.prog rfl ?_); go_big_move) | (with_reducible refine fastN rfl ?_) | skip))) | ((with_reducible refine on_load ?_); (first | refine xl1 M ?_ | refine xlN M ?_); go_big_move) | ((with_reducible refine on_store ?_); (first | refine xs1 M ?_ | refine xsN M ?_); clear M; intro w' M; (try simp only [List.set_cons_zero, List.set_cons_succ] at M)) | ((with_reducible refine on_box ?_); refine xb M ?_; clear M; intro g w' M; go_big_move) | ((with_reducible refine on_alloc ?_); refine xa M ?_; clear M; intro g w' M; go_big_move)) | go_values | go_skip | go_guarded | go_step | go_upon))
    exact ret_m1 rfl (Out.tmp rfl) rfl ⟨rfl, M.ext_of⟩
  | all a b =>
    show Calls Tryz.prog 120 #[.agg #[_, _]] w fun e w' => e = .returned (fi 1) ∧ Ext w w'
    go_enter Tryz.func120, Tryz.ntmps120
    (try dsimp only); (repeat (first | (first | ((with_reducible refine wl_g ?_); first | go_big_want | go_skip | ((with_reducible refine wl_off (by kernel_rfl) ?_); (first | ((with_reducible refine fastK Tryz.prog rfl ?_); go_big_move) | (with_reducible refine fastN rfl ?_) | skip))) | ((with_reducible refine on_load ?_); (first | refine xl1 M ?_ | refine xlN M ?_); go_big_move) | ((with_reducible refine on_store ?_); (first | refine xs1 M ?_ | refine xsN M ?_); clear M; intro w' M; (try simp only [List.set_cons_zero, List.set_cons_succ] at M)) | ((with_reducible refine on_box ?_); refine xb M ?_; clear M; intro g w' M; go_big_move) | ((with_reducible refine on_alloc ?_); refine xa M ?_; clear M; intro g w' M; go_big_move)) | go_values | go_skip | go_guarded | go_step | go_upon))
    exact ret_m1 rfl (Out.tmp rfl) rfl ⟨rfl, M.ext_of⟩
  | any a b =>
    show Calls Tryz.prog 117 #[.agg #[_, _]] w fun e w' => e = .returned (fi 0) ∧ Ext w w'
    go_enter Tryz.func117, Tryz.ntmps117
    (try dsimp only); (repeat (first | (first | ((with_reducible refine wl_g ?_); first | go_big_want | go_skip | ((with_reducible refine wl_off (by kernel_rfl) ?_); (first | ((with_reducible refine fastK Tryz.prog rfl ?_); go_big_move) | (with_reducible refine fastN rfl ?_) | skip))) | ((with_reducible refine on_load ?_); (first | refine xl1 M ?_ | refine xlN M ?_); go_big_move) | ((with_reducible refine on_store ?_); (first | refine xs1 M ?_ | refine xsN M ?_); clear M; intro w' M; (try simp only [List.set_cons_zero, List.set_cons_succ] at M)) | ((with_reducible refine on_box ?_); refine xb M ?_; clear M; intro g w' M; go_big_move) | ((with_reducible refine on_alloc ?_); refine xa M ?_; clear M; intro g w' M; go_big_move)) | go_values | go_skip | go_guarded | go_step | go_upon))
    exact ret_m1 rfl (Out.tmp rfl) rfl ⟨rfl, M.ext_of⟩
end Go.Proofs.YtkblkdnihppmnaaGreatDoor
