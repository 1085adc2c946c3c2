/- Parts of this work, one behind the other: Rfq. -/
import Derived.Test.YtkblkdnihppmnaaGreatDoorPkv31
import Derived.Test.YtkblkdnihppmnaaGreatDoorPkv27
import Derived.Test.YtkblkdnihppmnaaGreatDoorPkv2
/- Filters (layer 21): what the document's filter holds of (walk; printed by gen_rq.py). -/
namespace Go.Proofs.YtkblkdnihppmnaaGreatDoor
set_option linter.unusedSimpArgs false
set_option linter.unusedVariables false
open Go.RowKit Res Filt

section
variable {num : Nat → Nat → Int → Bool} {idt : Nat → List UInt8 → Bool}
theorem run_step {xs : List FN} {r : List Bool} (h : runB num idt [] xs = some r) {k : Nat} {rb : List Bool} (hk : runB num idt [] (xs.take k) = some rb) {x : FN} (hx : xs[k]? = some x) : ∃ rb', stepB num idt rb x = some rb' ∧ runB num idt [] (xs.take (k + 1)) = some rb' := by
  obtain ⟨hlt, rfl⟩ := List.getElem?_eq_some_iff.1 hx
  have e : xs = xs.take k ++ (xs[k] :: xs.drop (k + 1)) := by rw [← List.drop_eq_getElem_cons hlt, List.take_append_drop]
  rw [e, runB_append, hk] at h
  simp only [runB] at h
  cases hs : stepB num idt rb xs[k] with
  | none => rw [hs] at h; cases h
  | some rb' =>
    refine ⟨rb', rfl, ?_⟩
    rw [List.take_add_one, hx, runB_append, hk]
    simp only [Option.toList_some, runB, hs]
end
def bV (b : Bool) : List Value := [.bool b]
theorem bV_len (b : Bool) : (bV b).length = 1 := rfl
theorem bV_one : ∀ (x : Bool) (u : Value), u ∈ bV x → u.oneCell' = true := fun x u h => by rw [bV, List.mem_singleton] at h; rw [h]; rfl
theorem boolElem : ElemOf Tryz.prog 36 4 1 1 := elemOf_mk Tryz.underlying36 (z := .bool false) (by kernel_rfl) rfl (by decide)
theorem set_rev {α : Type} {v y : α} {r : List α} : ((v :: r).reverse).set r.length y = (y :: r).reverse := by
  rw [List.reverse_cons, List.reverse_cons, List.set_append_right _ _ (by simp)]
  simp
theorem set_rev2 {α : Type} {u v y : α} {r : List α} : ((u :: v :: r).reverse).set r.length y = (y :: r).reverse ++ [u] := by
  rw [List.reverse_cons, List.set_append_left _ _ (by simp), set_rev]
/-- a node whose numbers are in their bounds -/
def FOk : FN → Prop
  | .num f k _ => f < 13 ∧ k < 6
  | .idt k _ => k < 6
  | _ => True
/-- at the loop's head -/
def HRel (a : Abt) (xs : List FN) (gA : Nat) (w : World) (k : Nat) (rb : List Bool) (A : Option Addr) (c : Nat) (wr : World) : Prop :=
  k ≤ xs.length ∧ rb.length ≤ k ∧ Hid (runB (numB a) (idtB a) [] (xs.take k) = some rb) ∧ Mem (· < w.heap.size) w [ow 4 bV 1 A c rb.reverse, bx gA 33 [fi a.a0, fi a.a1, fi a.a2, str a.id, fi a.a4, fi a.a5, fi a.a6, fi a.a7, fi a.a8, fi a.a9, fi a.a10, fi a.a11, fi a.a12, fi a.a13, fi a.a14, fi a.a15, fi a.a16]] wr
set_option maxRecDepth 100000 in
set_option maxHeartbeats 4000000 in
theorem rHolds_some (a : Abt) (xs : List FN) (hok : ∀ x ∈ xs, FOk x) (b : Bool) (hrun : runB (numB a) (idtB a) [] xs = some [b]) (gf cf : Nat) (hlen : xs.length ≤ 1000000) (w : World) (hgf : gf < w.heap.size) (hcell : ∀ k x, xs[k]? = some x → ∀ j u, (fnV x)[j]? = some u → w.cell? ⟨gf, k * 5 + j, none⟩ = some u) :
    Calls Tryz.prog 12 #[.slice (some ⟨gf, 0, none⟩) xs.length cf, .agg #[fi a.a0, fi a.a1, fi a.a2, str a.id, fi a.a4, fi a.a5, fi a.a6, fi a.a7, fi a.a8, fi a.a9, fi a.a10, fi a.a11, fi a.a12, fi a.a13, fi a.a14, fi a.a15, fi a.a16]] w fun e w' => e = .returned (.bool b) ∧ Ext w w' := by
  have M := (Mem.start w).nil_ 4 bV 1
  have HC := Lib.hid hcell
  have HR := Lib.hid hrun
  have HOK := Lib.hid hok
  clear hcell hrun hok
  go_enter Tryz.func12, Tryz.ntmps12
  (try dsimp only); (repeat (first | (first | ((with_reducible refine wl_g ?_); first | go_big_want | go_skip | ((with_reducible refine wl_off (by kernel_rfl) ?_); (first | ((with_reducible refine fastK Tryz.prog rfl ?_); go_big_move) | (with_reducible refine fastN rfl ?_) | skip))) | ((with_reducible refine on_load ?_); (first | refine xl1 M ?_ | refine xlN M ?_); go_big_move) | ((with_reducible refine on_store ?_); (first | refine xs1 M ?_ | refine xsN M ?_); clear M; intro w' M; (try simp only [List.set_cons_zero, List.set_cons_succ] at M)) | ((with_reducible refine on_box ?_); refine xb M ?_; clear M; intro g w' M; go_big_move)) | go_values | go_skip | go_guarded | go_step | go_upon))
  obtain ⟨gA, hgA⟩ : ∃ x, x = g := ⟨_, rfl⟩
  subst hgA
  replace M := M.perm (List.Perm.swap _ _ _)
  go_loopw [5, 6] (fun x y wr => ∃ (k : Nat) (rb : List Bool) (A : Option Addr) (c : Nat), x = .slice A rb.length c ∧ y = fi (k : Int) ∧ HRel a xs gA w k rb A c wr) (fun _ y _ => xs.length - (intOf y).toNat)
  · exact ⟨0, [], none, 0, rfl, rfl, by omega, by simp, Lib.hid rfl, M⟩
  · clear M
    obtain ⟨k, rb, A, c, rfl, rfl, hk, hrb, HP, M⟩ := hrel
    rcases Nat.lt_or_ge k xs.length with hlt | hge
    · have q1 : decide ((k : Int) < (xs.length : Int)) = true := by simp; omega
      obtain ⟨x, hx⟩ : ∃ x, xs[k]? = some x := ⟨_, List.getElem?_eq_getElem hlt⟩
      have hxo := HOK.out x (List.mem_of_getElem? hx)
      obtain ⟨rb', hst, hN⟩ := run_step HR.out HP.out hx
      have HN := Lib.hid hN
      have hwk : IntKind.i64.wrap ((k : Int) + 1) = (k : Int) + 1 := IntWalk.i64_in _ (by omega)
      have HX := Lib.hid (HC.out k x hx)
      clear hN hx
      cases x with
      | num f q n =>
        cases hst
        have HK : Hid (w.cell? ⟨gf, k * 5, none⟩ = some (fi 0)) := Lib.hid (HX.out 0 _ rfl)
        have HKS : Hid (∀ j u, [fi 0, fi (f : Int), fi (q : Int), fi n, str []][j]? = some u → w.cell? ⟨gf, k * 5 + j, none⟩ = some u) := Lib.hid (fun j u h => HX.out j u h)
        have HH : Hid (∀ w', Calls Tryz.prog 22 #[.agg #[fi 0, fi (f : Int), fi (q : Int), fi n, str []], .agg #[fi a.a0, fi a.a1, fi a.a2, str a.id, fi a.a4, fi a.a5, fi a.a6, fi a.a7, fi a.a8, fi a.a9, fi a.a10, fi a.a11, fi a.a12, fi a.a13, fi a.a14, fi a.a15, fi a.a16]] w' fun e w'' => e = .returned (.bool (numB a f q n)) ∧ Ext w' w'') := Lib.hid (fun w' => rholds_num a f q hxo.1 hxo.2 n w')
        clear hxo
        generalize numB a f q n = v at HH HN
        (try dsimp only); (repeat (first | (first | ((with_reducible refine on_load ?_); refine xlC (M.far HK.out) ?_; go_big_move) | ((with_reducible refine on_region 10 ?_); refine wp_region_keepX M [3] 7 [(0, true), (1, true), (2, true), (3, true), (4, true), (5, false), (6, true)] (by kernel_rfl) (by kernel_rfl) (fun _ _ d _ _ h => by cases d <;> exact h) ?_; clear M; intro w' M; (iterate 3 ((refine wpSch_q ?_ rfl rfl (fun w' hR => ?_) ?_); rotate_left; (focus (go_simp; first | rfl | rw [if_neg (by simp; omega)] | rw [if_neg (by omega)] | rw [if_pos (by omega)] | (rw [if_pos (by omega)]; simp; done))); (first | simp only [Act.put, List.setIfInBounds_toArray, List.set_cons_zero, List.set_cons_succ] | skip))); (first | (refine sch_cellsX rfl _ _ rfl _ (fun j u h => M.far (HKS.out j u h)) (by assumption) (fun w => ⟨by first | (simp [go_sem]; done) | (simp [go_sem]; rfl), by first | (simp [go_sem]; done) | (simp [go_sem]; rfl)⟩) ?_; (first | simp only [Act.put, List.setIfInBounds_toArray, List.set_cons_zero, List.set_cons_succ] | skip))); ((first | refine zl1X M 3 ?_ | refine zlNX M 3 ?_ | (refine sch_cellsX rfl _ _ rfl _ (fun j u h => M.far (HKS.out j u h)) (by assumption) (fun w => ⟨by first | (simp [go_sem]; done) | (simp [go_sem]; rfl), by first | (simp [go_sem]; done) | (simp [go_sem]; rfl)⟩) ?_)); (first | simp only [Act.put, List.setIfInBounds_toArray, List.set_cons_zero, List.set_cons_succ] | skip)); (refine wpSch_e rfl rfl (fun K hK => ?_); go_simp; refine (HH.out _).mono ?_; rintro _ w1 ⟨rfl, hX⟩; refine hK _ _ (fun _ => keepX.ext M hX) ?_; replace M := M.ext hX; clear hX; clear hK K; (first | simp only [Act.put, List.setIfInBounds_toArray, List.set_cons_zero, List.set_cons_succ] | skip)); ((refine wpSch_q ?_ rfl rfl (fun w' hR => ?_) ?_); rotate_left; (focus (go_simp; first | rfl | rw [if_neg (by simp; omega)] | rw [if_neg (by omega)] | rw [if_pos (by omega)] | (rw [if_pos (by omega)]; simp; done))); (first | simp only [Act.put, List.setIfInBounds_toArray, List.set_cons_zero, List.set_cons_succ] | skip)); refine wpSch_nil ?_) | ((with_reducible refine on_single ?_); refine x1 M boolElem ?_; clear M; intro g w' M; go_big_move) | ((with_reducible refine on_append ?_); refine xap M boolElem v bV_len bV_one ?_; clear M; intro A' c' w' M; go_big_move) | ((with_reducible refine wl_g ?_); first | go_big_want | go_skip | ((with_reducible refine wl_off (by kernel_rfl) ?_); (first | ((with_reducible refine fastK Tryz.prog rfl ?_); go_big_move) | (with_reducible refine fastN rfl ?_) | skip))) | ((with_reducible refine on_load ?_); (first | refine xl1 M ?_ | refine xlN M ?_); go_big_move) | ((with_reducible refine on_store ?_); (first | refine xs1 M ?_ | refine xsN M ?_); clear M; intro w' M; (try simp only [List.set_cons_zero, List.set_cons_succ] at M)) | ((with_reducible refine on_box ?_); refine xb M ?_; clear M; intro g w' M; go_big_move)) | go_values | go_skip | go_guarded | go_step | go_upon))
        have M2 := M.sub (rs := [ow 4 bV 1 _ _ (rb.reverse ++ [v]), bx gA 33 _]) tk
        rw [← List.reverse_cons] at M2
        exact ⟨⟨k + 1, v :: rb, _, _, by simp, by go_num, by omega, by simp; omega, HN, M2⟩, by simp [intOf]; omega⟩
      | idt q t =>
        cases hst
        have HK : Hid (w.cell? ⟨gf, k * 5, none⟩ = some (fi 0)) := Lib.hid (HX.out 0 _ rfl)
        have HKS : Hid (∀ j u, [fi 0, fi 13, fi (q : Int), fi 0, str t][j]? = some u → w.cell? ⟨gf, k * 5 + j, none⟩ = some u) := Lib.hid (fun j u h => HX.out j u h)
        have HH : Hid (∀ w', Calls Tryz.prog 22 #[.agg #[fi 0, fi 13, fi (q : Int), fi 0, str t], .agg #[fi a.a0, fi a.a1, fi a.a2, str a.id, fi a.a4, fi a.a5, fi a.a6, fi a.a7, fi a.a8, fi a.a9, fi a.a10, fi a.a11, fi a.a12, fi a.a13, fi a.a14, fi a.a15, fi a.a16]] w' fun e w'' => e = .returned (.bool (idtB a q t)) ∧ Ext w' w'') := Lib.hid (fun w' => rholds_idt a q hxo t w')
        clear hxo
        generalize idtB a q t = v at HH HN
        (try dsimp only); (repeat (first | (first | ((with_reducible refine on_load ?_); refine xlC (M.far HK.out) ?_; go_big_move) | ((with_reducible refine on_region 10 ?_); refine wp_region_keepX M [3] 7 [(0, true), (1, true), (2, true), (3, true), (4, true), (5, false), (6, true)] (by kernel_rfl) (by kernel_rfl) (fun _ _ d _ _ h => by cases d <;> exact h) ?_; clear M; intro w' M; (iterate 3 ((refine wpSch_q ?_ rfl rfl (fun w' hR => ?_) ?_); rotate_left; (focus (go_simp; first | rfl | rw [if_neg (by simp; omega)] | rw [if_neg (by omega)] | rw [if_pos (by omega)] | (rw [if_pos (by omega)]; simp; done))); (first | simp only [Act.put, List.setIfInBounds_toArray, List.set_cons_zero, List.set_cons_succ] | skip))); (first | (refine sch_cellsX rfl _ _ rfl _ (fun j u h => M.far (HKS.out j u h)) (by assumption) (fun w => ⟨by first | (simp [go_sem]; done) | (simp [go_sem]; rfl), by first | (simp [go_sem]; done) | (simp [go_sem]; rfl)⟩) ?_; (first | simp only [Act.put, List.setIfInBounds_toArray, List.set_cons_zero, List.set_cons_succ] | skip))); ((first | refine zl1X M 3 ?_ | refine zlNX M 3 ?_ | (refine sch_cellsX rfl _ _ rfl _ (fun j u h => M.far (HKS.out j u h)) (by assumption) (fun w => ⟨by first | (simp [go_sem]; done) | (simp [go_sem]; rfl), by first | (simp [go_sem]; done) | (simp [go_sem]; rfl)⟩) ?_)); (first | simp only [Act.put, List.setIfInBounds_toArray, List.set_cons_zero, List.set_cons_succ] | skip)); (refine wpSch_e rfl rfl (fun K hK => ?_); go_simp; refine (HH.out _).mono ?_; rintro _ w1 ⟨rfl, hX⟩; refine hK _ _ (fun _ => keepX.ext M hX) ?_; replace M := M.ext hX; clear hX; clear hK K; (first | simp only [Act.put, List.setIfInBounds_toArray, List.set_cons_zero, List.set_cons_succ] | skip)); ((refine wpSch_q ?_ rfl rfl (fun w' hR => ?_) ?_); rotate_left; (focus (go_simp; first | rfl | rw [if_neg (by simp; omega)] | rw [if_neg (by omega)] | rw [if_pos (by omega)] | (rw [if_pos (by omega)]; simp; done))); (first | simp only [Act.put, List.setIfInBounds_toArray, List.set_cons_zero, List.set_cons_succ] | skip)); refine wpSch_nil ?_) | ((with_reducible refine on_single ?_); refine x1 M boolElem ?_; clear M; intro g w' M; go_big_move) | ((with_reducible refine on_append ?_); refine xap M boolElem v bV_len bV_one ?_; clear M; intro A' c' w' M; go_big_move) | ((with_reducible refine wl_g ?_); first | go_big_want | go_skip | ((with_reducible refine wl_off (by kernel_rfl) ?_); (first | ((with_reducible refine fastK Tryz.prog rfl ?_); go_big_move) | (with_reducible refine fastN rfl ?_) | skip))) | ((with_reducible refine on_load ?_); (first | refine xl1 M ?_ | refine xlN M ?_); go_big_move) | ((with_reducible refine on_store ?_); (first | refine xs1 M ?_ | refine xsN M ?_); clear M; intro w' M; (try simp only [List.set_cons_zero, List.set_cons_succ] at M)) | ((with_reducible refine on_box ?_); refine xb M ?_; clear M; intro g w' M; go_big_move)) | go_values | go_skip | go_guarded | go_step | go_upon))
        have M2 := M.sub (rs := [ow 4 bV 1 _ _ (rb.reverse ++ [v]), bx gA 33 _]) tk
        rw [← List.reverse_cons] at M2
        exact ⟨⟨k + 1, v :: rb, _, _, by simp, by go_num, by omega, by simp; omega, HN, M2⟩, by simp [intOf]; omega⟩
      | not =>
        match rb, hst with
        | v :: r, hst =>
        cases hst
        have HK : Hid (w.cell? ⟨gf, k * 5, none⟩ = some (fi 1)) := Lib.hid (HX.out 0 _ rfl)
        obtain ⟨gS, rfl⟩ := M.some_of Pick.head (by simp)
        have hc0 := M.cellO (k := r.length) (x := v) (j := 0) bV_len Pick.head (by rw [List.reverse_cons]; simp) rfl
        rw [Nat.mul_one, Nat.add_zero] at hc0
        have HV := Lib.hid hc0
        simp only [List.length_cons] at hrb
        have hw1 : IntKind.i64.wrap ((r.length : Int) + 1 - 1) = (r.length : Int) := by rw [show (r.length : Int) + 1 - 1 = r.length by omega]; exact IntWalk.i64_in _ (by omega)
        clear hc0
        (try dsimp only); (repeat (first | (first | ((with_reducible refine on_load ?_); refine xlC (M.far HK.out) ?_; go_big_move) | ((with_reducible refine on_load ?_); refine xlC HV.out ?_; go_big_move) | ((with_reducible refine on_store ?_); refine wp_storeO M (k := r.length) bV_len pk (!v) (by first | (simp; done) | omega | (simp; omega)) _ _ _ rfl (i := r.length) (by first | (simp; done) | omega | (simp; omega)) rfl rfl (by first | (simp [go_sem]; done) | (simp [go_sem]; rfl)) (bV_one _) ?_; clear M; intro w' hF M; clear hF; (first | ((with_reducible refine fastK Tryz.prog rfl ?_); go_big_move) | (with_reducible refine fastN rfl ?_) | skip)) | ((with_reducible refine wl_g ?_); first | go_big_want | go_skip | ((with_reducible refine wl_off (by kernel_rfl) ?_); (first | ((with_reducible refine fastK Tryz.prog rfl ?_); go_big_move) | (with_reducible refine fastN rfl ?_) | skip))) | ((with_reducible refine on_load ?_); (first | refine xl1 M ?_ | refine xlN M ?_); go_big_move) | ((with_reducible refine on_store ?_); (first | refine xs1 M ?_ | refine xsN M ?_); clear M; intro w' M; (try simp only [List.set_cons_zero, List.set_cons_succ] at M)) | ((with_reducible refine on_box ?_); refine xb M ?_; clear M; intro g w' M; go_big_move)) | go_values | go_skip | go_guarded | go_step | go_upon))
        have M2 := M
        rw [set_rev] at M2
        exact ⟨⟨k + 1, (!v) :: r, _, _, rfl, by go_num, by omega, by simp only [List.length_cons]; omega, HN, M2⟩, by simp [intOf]; omega⟩
      | all =>
        match rb, hst with
        | u :: v :: r, hst =>
        cases hst
        have HK : Hid (w.cell? ⟨gf, k * 5, none⟩ = some (fi 2)) := Lib.hid (HX.out 0 _ rfl)
        obtain ⟨gS, rfl⟩ := M.some_of Pick.head (by simp)
        have hc0 := M.cellO (k := r.length) (x := v) (j := 0) bV_len Pick.head (by rw [List.reverse_cons, List.reverse_cons]; simp) rfl
        have hc1 := M.cellO (k := r.length + 1) (x := u) (j := 0) bV_len Pick.head (by rw [List.reverse_cons, List.reverse_cons]; simp) rfl
        rw [Nat.mul_one, Nat.add_zero] at hc0 hc1
        have HV := Lib.hid hc0
        have HU := Lib.hid hc1
        have hcap := M.cap Pick.head
        simp only [List.length_reverse, List.length_cons] at hcap
        have hcap2 : (r.length : Int) + 1 ≤ (c : Int) := by omega
        have hcap3 : ¬ (c : Int) < (r.length : Int) + 1 := by omega
        simp only [List.length_cons] at hrb
        have hw1 : IntKind.i64.wrap ((r.length : Int) + 1 + 1 - 1) = (r.length : Int) + 1 := by rw [show (r.length : Int) + 1 + 1 - 1 = r.length + 1 by omega]; exact IntWalk.i64_in _ (by omega)
        have hw2 : IntKind.i64.wrap ((r.length : Int) + 1 + 1 - 2) = (r.length : Int) := by rw [show (r.length : Int) + 1 + 1 - 2 = r.length by omega]; exact IntWalk.i64_in _ (by omega)
        clear hc0 hc1
        cases v with
        | false =>
          (try dsimp only); (repeat (first | (first | ((with_reducible refine on_load ?_); refine xlC (M.far HK.out) ?_; go_big_move) | ((with_reducible refine on_load ?_); refine xlC HV.out ?_; go_big_move) | ((with_reducible refine on_load ?_); refine xlC HU.out ?_; go_big_move) | ((with_reducible refine on_store ?_); refine wp_storeO M (k := r.length) bV_len pk (false && u) (by first | (simp; done) | omega | (simp; omega)) _ _ _ rfl (i := r.length) (by first | (simp; done) | omega | (simp; omega)) rfl rfl (by first | (simp [go_sem]; done) | (simp [go_sem]; rfl)) (bV_one _) ?_; clear M; intro w' hF M; clear hF; (first | ((with_reducible refine fastK Tryz.prog rfl ?_); go_big_move) | (with_reducible refine fastN rfl ?_) | skip)) | ((with_reducible refine wl_g ?_); first | go_big_want | go_skip | ((with_reducible refine wl_off (by kernel_rfl) ?_); (first | ((with_reducible refine fastK Tryz.prog rfl ?_); go_big_move) | (with_reducible refine fastN rfl ?_) | skip))) | ((with_reducible refine on_load ?_); (first | refine xl1 M ?_ | refine xlN M ?_); go_big_move) | ((with_reducible refine on_store ?_); (first | refine xs1 M ?_ | refine xsN M ?_); clear M; intro w' M; (try simp only [List.set_cons_zero, List.set_cons_succ] at M)) | ((with_reducible refine on_box ?_); refine xb M ?_; clear M; intro g w' M; go_big_move)) | go_values | go_skip | go_guarded | go_step | go_upon))
          rw [set_rev2] at M
          replace M := Mem.pop bV_len M Pick.head
          exact ⟨⟨k + 1, (false && u) :: r, _, _, rfl, by go_num, by omega, by simp only [List.length_cons]; omega, HN, M⟩, by simp [intOf]; omega⟩
        | true =>
          (try dsimp only); (repeat (first | (first | ((with_reducible refine on_load ?_); refine xlC (M.far HK.out) ?_; go_big_move) | ((with_reducible refine on_load ?_); refine xlC HV.out ?_; go_big_move) | ((with_reducible refine on_load ?_); refine xlC HU.out ?_; go_big_move) | ((with_reducible refine on_store ?_); refine wp_storeO M (k := r.length) bV_len pk (true && u) (by first | (simp; done) | omega | (simp; omega)) _ _ _ rfl (i := r.length) (by first | (simp; done) | omega | (simp; omega)) rfl rfl (by first | (simp [go_sem]; done) | (simp [go_sem]; rfl)) (bV_one _) ?_; clear M; intro w' hF M; clear hF; (first | ((with_reducible refine fastK Tryz.prog rfl ?_); go_big_move) | (with_reducible refine fastN rfl ?_) | skip)) | ((with_reducible refine wl_g ?_); first | go_big_want | go_skip | ((with_reducible refine wl_off (by kernel_rfl) ?_); (first | ((with_reducible refine fastK Tryz.prog rfl ?_); go_big_move) | (with_reducible refine fastN rfl ?_) | skip))) | ((with_reducible refine on_load ?_); (first | refine xl1 M ?_ | refine xlN M ?_); go_big_move) | ((with_reducible refine on_store ?_); (first | refine xs1 M ?_ | refine xsN M ?_); clear M; intro w' M; (try simp only [List.set_cons_zero, List.set_cons_succ] at M)) | ((with_reducible refine on_box ?_); refine xb M ?_; clear M; intro g w' M; go_big_move)) | go_values | go_skip | go_guarded | go_step | go_upon))
          rw [set_rev2] at M
          replace M := Mem.pop bV_len M Pick.head
          exact ⟨⟨k + 1, (true && u) :: r, _, _, rfl, by go_num, by omega, by simp only [List.length_cons]; omega, HN, M⟩, by simp [intOf]; omega⟩
      | any =>
        match rb, hst with
        | u :: v :: r, hst =>
        cases hst
        have HK : Hid (w.cell? ⟨gf, k * 5, none⟩ = some (fi 3)) := Lib.hid (HX.out 0 _ rfl)
        obtain ⟨gS, rfl⟩ := M.some_of Pick.head (by simp)
        have hc0 := M.cellO (k := r.length) (x := v) (j := 0) bV_len Pick.head (by rw [List.reverse_cons, List.reverse_cons]; simp) rfl
        have hc1 := M.cellO (k := r.length + 1) (x := u) (j := 0) bV_len Pick.head (by rw [List.reverse_cons, List.reverse_cons]; simp) rfl
        rw [Nat.mul_one, Nat.add_zero] at hc0 hc1
        have HV := Lib.hid hc0
        have HU := Lib.hid hc1
        have hcap := M.cap Pick.head
        simp only [List.length_reverse, List.length_cons] at hcap
        have hcap2 : (r.length : Int) + 1 ≤ (c : Int) := by omega
        have hcap3 : ¬ (c : Int) < (r.length : Int) + 1 := by omega
        simp only [List.length_cons] at hrb
        have hw1 : IntKind.i64.wrap ((r.length : Int) + 1 + 1 - 1) = (r.length : Int) + 1 := by rw [show (r.length : Int) + 1 + 1 - 1 = r.length + 1 by omega]; exact IntWalk.i64_in _ (by omega)
        have hw2 : IntKind.i64.wrap ((r.length : Int) + 1 + 1 - 2) = (r.length : Int) := by rw [show (r.length : Int) + 1 + 1 - 2 = r.length by omega]; exact IntWalk.i64_in _ (by omega)
        clear hc0 hc1
        cases v with
        | false =>
          (try dsimp only); (repeat (first | (first | ((with_reducible refine on_load ?_); refine xlC (M.far HK.out) ?_; go_big_move) | ((with_reducible refine on_load ?_); refine xlC HV.out ?_; go_big_move) | ((with_reducible refine on_load ?_); refine xlC HU.out ?_; go_big_move) | ((with_reducible refine on_store ?_); refine wp_storeO M (k := r.length) bV_len pk (false || u) (by first | (simp; done) | omega | (simp; omega)) _ _ _ rfl (i := r.length) (by first | (simp; done) | omega | (simp; omega)) rfl rfl (by first | (simp [go_sem]; done) | (simp [go_sem]; rfl)) (bV_one _) ?_; clear M; intro w' hF M; clear hF; (first | ((with_reducible refine fastK Tryz.prog rfl ?_); go_big_move) | (with_reducible refine fastN rfl ?_) | skip)) | ((with_reducible refine wl_g ?_); first | go_big_want | go_skip | ((with_reducible refine wl_off (by kernel_rfl) ?_); (first | ((with_reducible refine fastK Tryz.prog rfl ?_); go_big_move) | (with_reducible refine fastN rfl ?_) | skip))) | ((with_reducible refine on_load ?_); (first | refine xl1 M ?_ | refine xlN M ?_); go_big_move) | ((with_reducible refine on_store ?_); (first | refine xs1 M ?_ | refine xsN M ?_); clear M; intro w' M; (try simp only [List.set_cons_zero, List.set_cons_succ] at M)) | ((with_reducible refine on_box ?_); refine xb M ?_; clear M; intro g w' M; go_big_move)) | go_values | go_skip | go_guarded | go_step | go_upon))
          rw [set_rev2] at M
          replace M := Mem.pop bV_len M Pick.head
          exact ⟨⟨k + 1, (false || u) :: r, _, _, rfl, by go_num, by omega, by simp only [List.length_cons]; omega, HN, M⟩, by simp [intOf]; omega⟩
        | true =>
          (try dsimp only); (repeat (first | (first | ((with_reducible refine on_load ?_); refine xlC (M.far HK.out) ?_; go_big_move) | ((with_reducible refine on_load ?_); refine xlC HV.out ?_; go_big_move) | ((with_reducible refine on_load ?_); refine xlC HU.out ?_; go_big_move) | ((with_reducible refine on_store ?_); refine wp_storeO M (k := r.length) bV_len pk (true || u) (by first | (simp; done) | omega | (simp; omega)) _ _ _ rfl (i := r.length) (by first | (simp; done) | omega | (simp; omega)) rfl rfl (by first | (simp [go_sem]; done) | (simp [go_sem]; rfl)) (bV_one _) ?_; clear M; intro w' hF M; clear hF; (first | ((with_reducible refine fastK Tryz.prog rfl ?_); go_big_move) | (with_reducible refine fastN rfl ?_) | skip)) | ((with_reducible refine wl_g ?_); first | go_big_want | go_skip | ((with_reducible refine wl_off (by kernel_rfl) ?_); (first | ((with_reducible refine fastK Tryz.prog rfl ?_); go_big_move) | (with_reducible refine fastN rfl ?_) | skip))) | ((with_reducible refine on_load ?_); (first | refine xl1 M ?_ | refine xlN M ?_); go_big_move) | ((with_reducible refine on_store ?_); (first | refine xs1 M ?_ | refine xsN M ?_); clear M; intro w' M; (try simp only [List.set_cons_zero, List.set_cons_succ] at M)) | ((with_reducible refine on_box ?_); refine xb M ?_; clear M; intro g w' M; go_big_move)) | go_values | go_skip | go_guarded | go_step | go_upon))
          rw [set_rev2] at M
          replace M := Mem.pop bV_len M Pick.head
          exact ⟨⟨k + 1, (true || u) :: r, _, _, rfl, by go_num, by omega, by simp only [List.length_cons]; omega, HN, M⟩, by simp [intOf]; omega⟩
    · have hke : k = xs.length := by omega
      have hrun := HP.out
      rw [hke, List.take_length, HR.out] at hrun
      have q1 : decide ((k : Int) < (xs.length : Int)) = false := by simp; omega
      cases hrun
      obtain ⟨gS, rfl⟩ := M.some_of Pick.head (by simp)
      have hc0 := M.cellO (k := 0) (x := b) (j := 0) bV_len Pick.head rfl rfl
      have HV := Lib.hid hc0
      clear hc0 hke
      (try dsimp only); (repeat (first | (first | ((with_reducible refine on_load ?_); refine xlC HV.out ?_; go_big_move) | ((with_reducible refine wl_g ?_); first | go_big_want | go_skip | ((with_reducible refine wl_off (by kernel_rfl) ?_); (first | ((with_reducible refine fastK Tryz.prog rfl ?_); go_big_move) | (with_reducible refine fastN rfl ?_) | skip))) | ((with_reducible refine on_load ?_); (first | refine xl1 M ?_ | refine xlN M ?_); go_big_move) | ((with_reducible refine on_store ?_); (first | refine xs1 M ?_ | refine xsN M ?_); clear M; intro w' M; (try simp only [List.set_cons_zero, List.set_cons_succ] at M)) | ((with_reducible refine on_box ?_); refine xb M ?_; clear M; intro g w' M; go_big_move)) | go_values | go_skip | go_guarded | go_step | go_upon))
      exact ret_m1 rfl (Out.tmp rfl) rfl ⟨rfl, M.ext_of⟩
end Go.Proofs.YtkblkdnihppmnaaGreatDoor
