/- Parts of this work, one behind the other: Rfs, FiltZb. -/
import Derived.Lib.ItoaLen
import Derived.Test.YtkblkdnihppmnaaGreatDoorPkv12
import Derived.Test.YtkblkdnihppmnaaGreatDoorPkv26
/- Filters (layer 21): the document's Decimal (walk). -/
namespace Go.Proofs.YtkblkdnihppmnaaGreatDoor
set_option linter.unusedSimpArgs false
set_option linter.unusedVariables false
open Go.RowKit Res Filt

section
variable {P : Program} {w : World} {o : Oper} {a : Act} {K : Act → World → Prop} {Q : Exit → Act → World → Prop} {dst : Option Tmp} {t u ty : TypeId} {x : Operand} {pos : String} {after : Array Edge} {gd : Option (Nat × Bool)}
theorem wp_conv (ho : o.op = .convert t u x) {vx v : Value} (hx : a.eval x = vx) (hr : (convert t u vx).run P w = .ok v w) (h : K (a.put o.dst v) w) : o.wp P a w K Q := by
  unfold Oper.wp execOp
  simp only [ho, hx, Sem.run_bind, Sem.run_pure, Result.andThen_ok, hr]
  exact h
theorem Mem.byteRow {S : Nat → Prop} {w0 w : World} {l : List Res} {F : Res → List Res} {g : Nat} {t : TypeId} {b : UInt8} {x : Int} (M : Mem S w0 l w) (p : Pick l (bx g t [.int .u8 x]) F) (hx : x = (b.toNat : Int)) : Row w 0 w.heap.size 1 (some ⟨g, 0, none⟩) 1 ([b].map byteV) :=
  ⟨rfl, fun _ => ⟨g, 0, rfl, Nat.zero_le _, (M.box p).lt, fun j u hu => by
    rw [(M.box p).cell]
    match j, hu with
    | 0, hu => subst hx; simpa [byteV] using hu⟩⟩
end
theorem byteElem : ElemOf Tryz.prog 84 5 1 1 := elemOf_mk Tryz.underlying84 (z := .int .u8 0) (by kernel_rfl) rfl (by decide)
abbrev DecIs (n : Int) : Prop := ∀ w, Calls Tryz.prog 23 #[fi n] w fun e w' => e = .returned (str (Lib.itoa n)) ∧ Ext w w'
set_option maxRecDepth 100000 in
set_option maxHeartbeats 800000 in
theorem dec_min : DecIs (-9223372036854775808) := by
  intro w
  have M := Mem.start w
  have e : Lib.itoa (-9223372036854775808) = [45, 57, 50, 50, 51, 51, 55, 50, 48, 51, 54, 56, 53, 52, 55, 55, 53, 56, 48, 56] := by
    rw [show (-9223372036854775808 : Int) = -((9223372036854775808 : Nat) : Int) from rfl, Lib.itoa_neg _ (by decide)]
    rw [← min63_dec, decDigits_first min63 (by decide) (by decide) (by decide)]
    rfl
  rw [e]
  go_enter Tryz.func23, Tryz.ntmps23
  (try dsimp only); (repeat (first | (first | fail) | go_values | go_skip | go_guarded | go_step | go_upon))
  exact ret_m1 rfl (Out.tmp rfl) rfl ⟨rfl, M.ext_of⟩
set_option maxRecDepth 100000 in
set_option maxHeartbeats 800000 in
theorem dec_neg (u : Nat) (h1 : 1 ≤ u) (h2 : u ≤ 9223372036854775807) (ih : DecIs (u : Int)) : DecIs (-(u : Int)) := by
  intro w
  have M := Mem.start w
  rw [Lib.itoa_neg u h1, ← Lib.itoa_nonneg]
  have q0 : (-(u : Int) == -9223372036854775808) = false := by rw [beq_eq_false_iff_ne]; omega
  have q1 : decide (-(u : Int) < 0) = true := by simp; omega
  have hw : IntKind.i64.wrap (- -(u : Int)) = (u : Int) := by rw [Int.neg_neg]; exact IntWalk.i64_in _ (by omega)
  have hw2 : wrap64 (- -(u : Int)) = (u : Int) := by rw [← IntWalk.i64_left]; exact hw
  have hw3 : wrap64 (u : Int) = (u : Int) := by rw [← IntWalk.i64_left]; exact IntWalk.i64_in _ (by omega)
  have hl : (Lib.itoa (u : Int)).length ≤ 21 := Lib.itoa_length_le _ (by omega) (by omega)
  obtain ⟨t, ht⟩ : ∃ t, Lib.itoa (u : Int) = t := ⟨_, rfl⟩
  have HI : Hid (∀ w, Calls Tryz.prog 23 #[fi (u : Int)] w fun e w' => e = .returned (str t) ∧ Ext w w') := Lib.hid (fun w => by rw [← ht]; exact ih w)
  rw [ht] at hl ⊢
  have HC := Lib.hid (run_cat [45] t (by simp; omega))
  clear ih ht
  go_enter Tryz.func23, Tryz.ntmps23
  (try dsimp only); (repeat (first | (first | (go_at_call 23; (with_reducible refine (HI.out _).mono ?_); rintro _ w1 ⟨rfl, hX⟩; replace M := M.ext hX; clear hX; dsimp only) | ((with_reducible refine on_bin ?_); refine wp_bin rfl rfl rfl rfl (HC.out _) ?_; (first | ((with_reducible refine fastK Tryz.prog rfl ?_); go_big_move) | (with_reducible refine fastN rfl ?_) | skip))) | go_values | go_skip | go_guarded | go_step | go_upon))
  exact ret_m1 rfl (Out.tmp rfl) rfl ⟨rfl, M.ext_of⟩
set_option maxRecDepth 100000 in
set_option maxHeartbeats 800000 in
theorem dec_one (u : Nat) (h : u < 10) : DecIs (u : Int) := by
  intro w
  rw [Lib.itoa_nonneg, digit_byte h, show 48 + u = 48 + u % 10 by omega]
  have q2 : decide ((u : Int) < 10) = true := by simp; omega
  have M := Mem.start w
  have q0 : ((u : Int) == -9223372036854775808) = false := by rw [beq_eq_false_iff_ne]; omega
  have q1 : decide ((u : Int) < 0) = false := by simp
  have hmod : (u : Int).tmod 10 = ((u % 10 : Nat) : Int) := rfl
  have hdiv : (u : Int).tdiv 10 = ((u / 10 : Nat) : Int) := rfl
  have hb : (UInt8.ofNat (48 + u % 10)).toNat = 48 + u % 10 := by simp; omega
  have hw1 : IntKind.i64.wrap ((u % 10 : Nat) : Int) = ((u % 10 : Nat) : Int) := IntWalk.i64_in _ (by omega)
  have hw2 : IntKind.i64.wrap (48 + ((u % 10 : Nat) : Int)) = 48 + ((u % 10 : Nat) : Int) := IntWalk.i64_in _ (by omega)
  have hw3 : IntKind.u8.wrap (48 + ((u % 10 : Nat) : Int)) = ((UInt8.ofNat (48 + u % 10)).toNat : Int) := by rw [hb]; exact IntWalk.u8_in _ (by omega)
  have hw4 : IntKind.i64.wrap ((u / 10 : Nat) : Int) = ((u / 10 : Nat) : Int) := IntWalk.i64_in _ (by omega)
  obtain ⟨b, hbb⟩ : ∃ b, UInt8.ofNat (48 + u % 10) = b := ⟨_, rfl⟩
  rw [hbb] at hw3 ⊢
  have HB : Hid (48 + (u : Int) % 10 = (b.toNat : Int)) := Lib.hid (by rw [← hbb, hb]; omega)
  clear hb hbb
  skip
  go_enter Tryz.func23, Tryz.ntmps23
  (try dsimp only); (repeat (first | (first | ((with_reducible refine on_single ?_); refine x1 M byteElem ?_; clear M; intro g w' M; go_big_move) | ((with_reducible refine on_conv ?_); refine wp_conv rfl rfl (run_string_row _ _ _ 5 Tryz.underlying84 Tryz.underlying5 Tryz.underlying9 (M.byteRow pk HB.out) _) ?_; (first | ((with_reducible refine fastK Tryz.prog rfl ?_); go_big_move) | (with_reducible refine fastN rfl ?_) | skip))) | go_values | go_skip | go_guarded | go_step | go_upon))
  exact ret_m1 rfl (Out.tmp rfl) rfl ⟨rfl, M.ext_of⟩
set_option maxRecDepth 100000 in
set_option maxHeartbeats 800000 in
theorem dec_more (u : Nat) (h : ¬ u < 10) (h2 : u ≤ 9223372036854775807) (ih : DecIs ((u / 10 : Nat) : Int)) : DecIs (u : Int) := by
  intro w
  rw [Lib.itoa_nonneg, digits_step h]
  have q2 : decide ((u : Int) < 10) = false := by simp; omega
  have hl : (Lib.itoa ((u / 10 : Nat) : Int)).length ≤ 21 := Lib.itoa_length_le _ (by omega) (by omega)
  rw [Lib.itoa_nonneg] at hl
  obtain ⟨t, ht⟩ : ∃ t, Lib.decDigits (u / 10) = t := ⟨_, rfl⟩
  have HI : Hid (∀ w, Calls Tryz.prog 23 #[fi ((u : Int) / 10)] w fun e w' => e = .returned (str t) ∧ Ext w w') := Lib.hid (fun w => by
    have := ih w
    rw [Lib.itoa_nonneg, ht] at this
    rwa [show (u : Int) / 10 = ((u / 10 : Nat) : Int) by omega])
  rw [ht] at hl ⊢
  clear ih ht
  have hq : IntKind.i64.wrap ((u : Int) / 10) = (u : Int) / 10 := IntWalk.i64_in _ (by omega)
  have M := Mem.start w
  have q0 : ((u : Int) == -9223372036854775808) = false := by rw [beq_eq_false_iff_ne]; omega
  have q1 : decide ((u : Int) < 0) = false := by simp
  have hmod : (u : Int).tmod 10 = ((u % 10 : Nat) : Int) := rfl
  have hdiv : (u : Int).tdiv 10 = ((u / 10 : Nat) : Int) := rfl
  have hb : (UInt8.ofNat (48 + u % 10)).toNat = 48 + u % 10 := by simp; omega
  have hw1 : IntKind.i64.wrap ((u % 10 : Nat) : Int) = ((u % 10 : Nat) : Int) := IntWalk.i64_in _ (by omega)
  have hw2 : IntKind.i64.wrap (48 + ((u % 10 : Nat) : Int)) = 48 + ((u % 10 : Nat) : Int) := IntWalk.i64_in _ (by omega)
  have hw3 : IntKind.u8.wrap (48 + ((u % 10 : Nat) : Int)) = ((UInt8.ofNat (48 + u % 10)).toNat : Int) := by rw [hb]; exact IntWalk.u8_in _ (by omega)
  have hw4 : IntKind.i64.wrap ((u / 10 : Nat) : Int) = ((u / 10 : Nat) : Int) := IntWalk.i64_in _ (by omega)
  obtain ⟨b, hbb⟩ : ∃ b, UInt8.ofNat (48 + u % 10) = b := ⟨_, rfl⟩
  rw [hbb] at hw3 ⊢
  have HB : Hid (48 + (u : Int) % 10 = (b.toNat : Int)) := Lib.hid (by rw [← hbb, hb]; omega)
  clear hb hbb
  skip
  have HC := Lib.hid (run_cat t [b] (by simp; omega))
  go_enter Tryz.func23, Tryz.ntmps23
  (try dsimp only); (repeat (first | (first | (go_at_call 23; (with_reducible refine (HI.out _).mono ?_); rintro _ w1 ⟨rfl, hX⟩; replace M := M.ext hX; clear hX; dsimp only) | ((with_reducible refine on_bin ?_); refine wp_bin rfl rfl rfl rfl (HC.out _) ?_; (first | ((with_reducible refine fastK Tryz.prog rfl ?_); go_big_move) | (with_reducible refine fastN rfl ?_) | skip)) | ((with_reducible refine on_single ?_); refine x1 M byteElem ?_; clear M; intro g w' M; go_big_move) | ((with_reducible refine on_conv ?_); refine wp_conv rfl rfl (run_string_row _ _ _ 5 Tryz.underlying84 Tryz.underlying5 Tryz.underlying9 (M.byteRow pk HB.out) _) ?_; (first | ((with_reducible refine fastK Tryz.prog rfl ?_); go_big_move) | (with_reducible refine fastN rfl ?_) | skip))) | go_values | go_skip | go_guarded | go_step | go_upon))
  exact ret_m1 rfl (Out.tmp rfl) rfl ⟨rfl, M.ext_of⟩
theorem dec_nat (u : Nat) (h2 : u ≤ 9223372036854775807) : DecIs (u : Int) := by
  induction u using Nat.strongRecOn with
  | _ u ih =>
    by_cases h : u < 10
    · exact dec_one u h
    · exact dec_more u h h2 (ih (u / 10) (by omega) (by omega))
/-- the document's Decimal -/
theorem ref_decimal (n : Int) (hn : I64 n) : DecIs n := by
  have h1 := hn.1
  have h2 := hn.2
  by_cases h : n = -9223372036854775808
  · rw [h]; exact dec_min
  rcases (by omega : n < 0 ∨ 0 ≤ n) with hneg | hpos
  · obtain ⟨u, hu⟩ : ∃ u : Nat, n = -(u : Int) := ⟨n.natAbs, by omega⟩
    subst hu
    exact dec_neg u (by omega) (by omega) (dec_nat u (by omega))
  · obtain ⟨u, hu⟩ : ∃ u : Nat, n = (u : Int) := ⟨n.toNat, by omega⟩
    subst hu
    exact dec_nat u (by omega)
end Go.Proofs.YtkblkdnihppmnaaGreatDoor
/- Filters (layer 21): a part's text (walk, third part): the id, not. -/
namespace Go.Proofs.YtkblkdnihppmnaaGreatDoor
set_option linter.unusedSimpArgs false
set_option linter.unusedVariables false
open Go.RowKit Res Filt

/-- a part's text, by its method -/
def TextIs (n : Nd) (t : List UInt8) : Prop :=
  ∀ w, Nv w → Calls Tryz.prog (textF n) #[payV n] w fun e w' => e = .returned (str t) ∧ Ext w w'
def idtT (k : Nat) (t : List UInt8) : List UInt8 := ((([105, 100, 32] ++ askNames.getD k []) ++ [32, 34]) ++ t) ++ [34]
set_option maxRecDepth 100000 in
set_option maxHeartbeats 800000 in
theorem named_text (k : Nat) (hk : k < 6) (t : List UInt8) (ht : t.length ≤ 64) : TextIs (.idt k t) (idtT k t) := by
  intro w hN
  have M := Mem.start w
  show Calls Tryz.prog 130 #[.agg #[str (askNames.getD k []), str t]] w fun e w' => e = .returned (str (((([105, 100, 32] ++ askNames.getD k []) ++ [32, 34]) ++ t) ++ [34])) ∧ Ext w w'
  have ha : (askNames.getD k []).length ≤ 2 := by
    have h : ((List.range 6).all fun k => decide ((askNames.getD k []).length ≤ 2)) = true := by decide
    simpa using List.all_eq_true.1 h k (List.mem_range.2 hk)
  generalize askNames.getD k [] = a at ha ⊢
  have h1 := run_cat [105, 100, 32] a (by simp; omega)
  have h2 := run_cat ([105, 100, 32] ++ a) [32, 34] (by simp; omega)
  have h3 := run_cat (([105, 100, 32] ++ a) ++ [32, 34]) t (by simp; omega)
  have h4 := run_cat ((([105, 100, 32] ++ a) ++ [32, 34]) ++ t) [34] (by simp; omega)
  have H1 := Lib.hid h1
  have H2 := Lib.hid h2
  have H3 := Lib.hid h3
  have H4 := Lib.hid h4
  clear h1 h2 h3 h4 hN
  go_enter Tryz.func130, Tryz.ntmps130
  (try dsimp only); (repeat (first | (first | ((with_reducible refine on_bin ?_); (first | refine wp_bin rfl rfl rfl rfl (H1.out _) ?_ | refine wp_bin rfl rfl rfl rfl (H2.out _) ?_ | refine wp_bin rfl rfl rfl rfl (H3.out _) ?_ | refine wp_bin rfl rfl rfl rfl (H4.out _) ?_); (first | ((with_reducible refine fastK Tryz.prog rfl ?_); go_big_move) | (with_reducible refine fastN rfl ?_) | skip)) | ((with_reducible refine on_load ?_); (first | refine xl1 M ?_ | refine xlN M ?_); go_big_move) | ((with_reducible refine on_box ?_); refine xb M ?_; clear M; intro g w' M; go_big_move)) | go_values | go_skip | go_guarded | go_step | go_upon))
  exact ret_m1 rfl (Out.tmp rfl) rfl ⟨rfl, M.ext_of⟩
set_option maxRecDepth 100000 in
set_option maxHeartbeats 800000 in
theorem not_text (n : Nd) (t : List UInt8) (h : TextIs n t) (ht : t.length ≤ 1000000) : TextIs (.not n) (sNot ++ Filt.within 2 n t) := by
  intro w hN
  have M := Mem.start w
  have HT : Hid (∀ w', Ext w w' → Calls Tryz.prog (textF n) #[payV n] w' fun e w'' => e = .returned (str t) ∧ Ext w' w'') := Lib.hid (fun w' hX => h w' (hN.ext hX))
  have HW : Hid (∀ w', Ext w w' → Calls Tryz.prog 122 #[.iface (tyV n) (payV n), fi 2] w' fun e w'' => e = .returned (str (Filt.within 2 n t)) ∧ Ext w' w'') := Lib.hid (fun w' hX => within_any n t 2 ht w' (Lib.hid fun w'' hX2 => h w'' ((hN.ext hX).ext hX2)))
  have hl : (Filt.within 2 n t).length ≤ 1000002 := by unfold Filt.within brk; split <;> (try simp) <;> omega
  show Calls Tryz.prog 127 #[.agg #[ndV n]] w fun e w' => e = .returned (str ([110, 111, 116, 32] ++ Filt.within 2 n t)) ∧ Ext w w'
  rw [ndV_eq n]
  generalize Filt.within 2 n t = u at HW hl ⊢
  have H1 := Lib.hid (run_cat [110, 111, 116, 32] u (by simp; omega))
  clear h hN
  go_enter Tryz.func127, Tryz.ntmps127
  (try dsimp only); (repeat (first | (first | (go_at_call 122; (with_reducible refine (HW.out _ M.ext_of).mono ?_); rintro _ w1 ⟨rfl, hX⟩; replace M := M.ext hX; clear hX; dsimp only) | ((with_reducible refine on_bin ?_); refine wp_bin rfl rfl rfl rfl (H1.out _) ?_; (first | ((with_reducible refine fastK Tryz.prog rfl ?_); go_big_move) | (with_reducible refine fastN rfl ?_) | skip)) | ((with_reducible refine on_load ?_); (first | refine xl1 M ?_ | refine xlN M ?_); go_big_move) | ((with_reducible refine on_box ?_); refine xb M ?_; clear M; intro g w' M; go_big_move)) | go_values | go_skip | go_guarded | go_step | go_upon))
  exact ret_m1 rfl (Out.tmp rfl) rfl ⟨rfl, M.ext_of⟩
set_option maxRecDepth 100000 in
set_option maxHeartbeats 800000 in
theorem any_text (n m : Nd) (t u : List UInt8) (h1 : TextIs n t) (h2 : TextIs m u) (ht : t.length ≤ 1000000) (hu : u.length ≤ 1000000) : TextIs (.any n m) (t ++ sOr ++ u) := by
  intro w hN
  have M := Mem.start w
  have HT : Hid (∀ w', Ext w w' → Calls Tryz.prog (textF n) #[payV n] w' fun e w'' => e = .returned (str t) ∧ Ext w' w'') := Lib.hid (fun w' hX => h1 w' (hN.ext hX))
  have HU : Hid (∀ w', Ext w w' → Calls Tryz.prog (textF m) #[payV m] w' fun e w'' => e = .returned (str u) ∧ Ext w' w'') := Lib.hid (fun w' hX => h2 w' (hN.ext hX))
  have HM := Lib.hid (method_text n)
  have HC := Lib.hid (call_text n)
  have HM2 := Lib.hid (method_text m)
  have HC2 := Lib.hid (call_text m)
  show Calls Tryz.prog 118 #[.agg #[ndV n, ndV m]] w fun e w' => e = .returned (str ((t ++ [32, 111, 114, 32]) ++ u)) ∧ Ext w w'
  rw [ndV_eq n, ndV_eq m]
  clear h1 h2 hN
  go_enter Tryz.func118, Tryz.ntmps118
  (try dsimp only); (repeat (first | (first | fail | ((with_reducible refine on_load ?_); (first | refine xl1 M ?_ | refine xlN M ?_); go_big_move) | ((with_reducible refine on_box ?_); refine xb M ?_; clear M; intro g w' M; go_big_move)) | go_values | go_skip | go_guarded | go_step | go_upon))
  ((with_reducible refine on_region 1 ?_); refine wp_region_keep M [1] 9 [(0, true), (1, true), (4, true), (5, true), (2, false), (3, true), (6, false), (7, true), (8, true)] (by kernel_rfl) (by kernel_rfl) (fun _ _ d _ _ h => by cases d <;> exact h) ?_; clear M; intro w' M; ((refine wpSch_q ?_ rfl rfl (fun w' hR => ?_) ?_); rotate_left; (focus (go_simp; first | rfl | rw [if_neg (by simp; omega)] | rw [if_neg (by omega)] | rw [if_pos (by omega)] | (rw [if_pos (by omega)]; simp; done))); (first | simp only [Act.put, List.setIfInBounds_toArray, List.set_cons_zero, List.set_cons_succ] | skip)); ((first | refine zl1 M 1 ?_ | refine zlN M 1 ?_); (first | simp only [Act.put, List.setIfInBounds_toArray, List.set_cons_zero, List.set_cons_succ] | skip)); ((refine wpSch_q ?_ rfl rfl (fun w' hR => ?_) ?_); rotate_left; (focus (go_simp; first | rfl | rw [if_neg (by simp; omega)] | rw [if_neg (by omega)] | rw [if_pos (by omega)] | (rw [if_pos (by omega)]; simp; done))); (first | simp only [Act.put, List.setIfInBounds_toArray, List.set_cons_zero, List.set_cons_succ] | skip)); ((first | refine zl1 M 1 ?_ | refine zlN M 1 ?_); (first | simp only [Act.put, List.setIfInBounds_toArray, List.set_cons_zero, List.set_cons_succ] | skip)); (refine wpSch_e rfl rfl (fun K hK => ?_); go_simp; simp only [HM.out, HC.out, Result.andThen_ok]; rw [Oper.upon_enter]; refine (HT.out _ M.ext_of).mono ?_; rintro _ w1 ⟨rfl, hX⟩; refine hK _ _ (fun _ => keepR.ext hX) ?_; replace M := M.ext hX; clear hX; clear hK K; (first | simp only [Act.put, List.setIfInBounds_toArray, List.set_cons_zero, List.set_cons_succ] | skip)); ((refine wpSch_q ?_ rfl rfl (fun w' hR => ?_) ?_); rotate_left; (focus (go_simp; first | rfl | rw [if_neg (by simp; omega)] | rw [if_neg (by omega)] | rw [if_pos (by omega)] | (rw [if_pos (by omega)]; simp; done))); (first | simp only [Act.put, List.setIfInBounds_toArray, List.set_cons_zero, List.set_cons_succ] | skip)); (refine wpSch_e rfl rfl (fun K hK => ?_); go_simp; simp only [HM2.out, HC2.out, Result.andThen_ok]; rw [Oper.upon_enter]; refine (HU.out _ M.ext_of).mono ?_; rintro _ w1 ⟨rfl, hX⟩; refine hK _ _ (fun _ => keepR.ext hX) ?_; replace M := M.ext hX; clear hX; clear hK K; (first | simp only [Act.put, List.setIfInBounds_toArray, List.set_cons_zero, List.set_cons_succ] | skip)); (iterate 2 ((refine wpSch_q ?_ rfl rfl (fun w' hR => ?_) ?_); rotate_left; (focus (go_simp; first | rfl | rw [if_neg (by simp; omega)] | rw [if_neg (by omega)] | rw [if_pos (by omega)] | (rw [if_pos (by omega)]; simp; done))); (first | simp only [Act.put, List.setIfInBounds_toArray, List.set_cons_zero, List.set_cons_succ] | skip))); refine wpSch_nil ?_)
  (try dsimp only); (repeat (first | (first | ((with_reducible refine on_load ?_); (first | refine xl1 M ?_ | refine xlN M ?_); go_big_move) | ((with_reducible refine on_box ?_); refine xb M ?_; clear M; intro g w' M; go_big_move)) | go_values | go_skip | go_guarded | go_step | go_upon))
  refine ret_m1 rfl (Out.tmp rfl) rfl ⟨?_, M.ext_of⟩
  show Ending.returned _ = _
  congr 2
set_option maxRecDepth 100000 in
set_option maxHeartbeats 800000 in
theorem all_text (n m : Nd) (t u : List UInt8) (h1 : TextIs n t) (h2 : TextIs m u) (ht : t.length ≤ 1000000) (hu : u.length ≤ 1000000) : TextIs (.all n m) (Filt.within 1 n t ++ sAnd ++ Filt.within 1 m u) := by
  intro w hN
  have M := Mem.start w
  have HT : Hid (∀ w', Ext w w' → Calls Tryz.prog 122 #[.iface (tyV n) (payV n), fi 1] w' fun e w'' => e = .returned (str (Filt.within 1 n t)) ∧ Ext w' w'') := Lib.hid (fun w' hX => within_any n t 1 ht w' (Lib.hid fun w'' hX2 => h1 w'' ((hN.ext hX).ext hX2)))
  have HU : Hid (∀ w', Ext w w' → Calls Tryz.prog 122 #[.iface (tyV m) (payV m), fi 1] w' fun e w'' => e = .returned (str (Filt.within 1 m u)) ∧ Ext w' w'') := Lib.hid (fun w' hX => within_any m u 1 hu w' (Lib.hid fun w'' hX2 => h2 w'' ((hN.ext hX).ext hX2)))
  have hl : (Filt.within 1 n t).length ≤ 1000002 := by unfold Filt.within brk; split <;> (try simp) <;> omega
  have hm : (Filt.within 1 m u).length ≤ 1000002 := by unfold Filt.within brk; split <;> (try simp) <;> omega
  show Calls Tryz.prog 121 #[.agg #[ndV n, ndV m]] w fun e w' => e = .returned (str ((Filt.within 1 n t ++ [32, 97, 110, 100, 32]) ++ Filt.within 1 m u)) ∧ Ext w w'
  rw [ndV_eq n, ndV_eq m]
  generalize Filt.within 1 n t = x at HT hl ⊢
  generalize Filt.within 1 m u = y at HU hm ⊢
  clear h1 h2 hN
  go_enter Tryz.func121, Tryz.ntmps121
  (try dsimp only); (repeat (first | (first | fail | ((with_reducible refine on_load ?_); (first | refine xl1 M ?_ | refine xlN M ?_); go_big_move) | ((with_reducible refine on_box ?_); refine xb M ?_; clear M; intro g w' M; go_big_move)) | go_values | go_skip | go_guarded | go_step | go_upon))
  ((with_reducible refine on_region 1 ?_); refine wp_region_keep M [1] 9 [(0, true), (1, true), (4, true), (5, true), (2, false), (3, true), (6, false), (7, true), (8, true)] (by kernel_rfl) (by kernel_rfl) (fun _ _ d _ _ h => by cases d <;> exact h) ?_; clear M; intro w' M; ((refine wpSch_q ?_ rfl rfl (fun w' hR => ?_) ?_); rotate_left; (focus (go_simp; first | rfl | rw [if_neg (by simp; omega)] | rw [if_neg (by omega)] | rw [if_pos (by omega)] | (rw [if_pos (by omega)]; simp; done))); (first | simp only [Act.put, List.setIfInBounds_toArray, List.set_cons_zero, List.set_cons_succ] | skip)); ((first | refine zl1 M 1 ?_ | refine zlN M 1 ?_); (first | simp only [Act.put, List.setIfInBounds_toArray, List.set_cons_zero, List.set_cons_succ] | skip)); ((refine wpSch_q ?_ rfl rfl (fun w' hR => ?_) ?_); rotate_left; (focus (go_simp; first | rfl | rw [if_neg (by simp; omega)] | rw [if_neg (by omega)] | rw [if_pos (by omega)] | (rw [if_pos (by omega)]; simp; done))); (first | simp only [Act.put, List.setIfInBounds_toArray, List.set_cons_zero, List.set_cons_succ] | skip)); ((first | refine zl1 M 1 ?_ | refine zlN M 1 ?_); (first | simp only [Act.put, List.setIfInBounds_toArray, List.set_cons_zero, List.set_cons_succ] | skip)); (refine wpSch_e rfl rfl (fun K hK => ?_); go_simp; refine (HT.out _ M.ext_of).mono ?_; rintro _ w1 ⟨rfl, hX⟩; refine hK _ _ (fun _ => keepR.ext hX) ?_; replace M := M.ext hX; clear hX; clear hK K; (first | simp only [Act.put, List.setIfInBounds_toArray, List.set_cons_zero, List.set_cons_succ] | skip)); ((refine wpSch_q ?_ rfl rfl (fun w' hR => ?_) ?_); rotate_left; (focus (go_simp; first | rfl | rw [if_neg (by simp; omega)] | rw [if_neg (by omega)] | rw [if_pos (by omega)] | (rw [if_pos (by omega)]; simp; done))); (first | simp only [Act.put, List.setIfInBounds_toArray, List.set_cons_zero, List.set_cons_succ] | skip)); (refine wpSch_e rfl rfl (fun K hK => ?_); go_simp; refine (HU.out _ M.ext_of).mono ?_; rintro _ w1 ⟨rfl, hX⟩; refine hK _ _ (fun _ => keepR.ext hX) ?_; replace M := M.ext hX; clear hX; clear hK K; (first | simp only [Act.put, List.setIfInBounds_toArray, List.set_cons_zero, List.set_cons_succ] | skip)); (iterate 2 ((refine wpSch_q ?_ rfl rfl (fun w' hR => ?_) ?_); rotate_left; (focus (go_simp; first | rfl | rw [if_neg (by simp; omega)] | rw [if_neg (by omega)] | rw [if_pos (by omega)] | (rw [if_pos (by omega)]; simp; done))); (first | simp only [Act.put, List.setIfInBounds_toArray, List.set_cons_zero, List.set_cons_succ] | skip))); refine wpSch_nil ?_)
  (try dsimp only); (repeat (first | (first | ((with_reducible refine on_load ?_); (first | refine xl1 M ?_ | refine xlN M ?_); go_big_move) | ((with_reducible refine on_box ?_); refine xb M ?_; clear M; intro g w' M; go_big_move)) | go_values | go_skip | go_guarded | go_step | go_upon))
  refine ret_m1 rfl (Out.tmp rfl) rfl ⟨?_, M.ext_of⟩
  show Ending.returned _ = _
  congr 2
end Go.Proofs.YtkblkdnihppmnaaGreatDoor
