/- Parts of this work, one behind the other: FilterLogic0. -/
import Derived.Deep.CutRange
import Derived.Test.YtkblkdnihppmnaaGreatDoorPkv42
import Derived.Test.YtkblkdnihppmnaaGreatDoorPkv38
import Derived.Test.YtkblkdnihppmnaaGreatDoorPkv26
import Derived.Test.YtkblkdnihppmnaaGreatDoorPkv1
/- The law FilterLogic, walked. -/
namespace Go.Proofs.YtkblkdnihppmnaaGreatDoor
set_option linter.unusedSimpArgs false
set_option linter.unusedVariables false
open Go.RowKit Res Filt

theorem lbElem : ElemOf Tryz.prog 36 4 1 1 := elemOf_mk Tryz.underlying36 (z := .bool false) (by kernel_rfl) rfl (by decide)
def codeR : Filt.Out → Int
  | .ok _ => 0
  | .no _ => 51
/-- the document's Parse, where the program's answer is known -/
theorem ref_code {s : List UInt8} {o : Filt.Out} (h : ParseP s o) (w : World) : Calls Tryz.prog 8 #[str s] w fun e w' => ∃ v p, e = .returned (.tuple #[v, fi (codeR o), fi p]) ∧ Ext w w' :=
  (ref_parse s w).mono fun e w' ⟨o2, ho2, hx⟩ => by
    cases parse_same h ho2
    rcases o with (_ | n) | i
    · obtain ⟨rfl, hX⟩ := hx; exact ⟨_, _, rfl, hX⟩
    · obtain ⟨A, c, rfl, hX, -⟩ := hx; exact ⟨_, _, rfl, hX⟩
    · obtain ⟨rfl, hX⟩ := hx; exact ⟨_, _, rfl, hX⟩
theorem ref_code2 {s : List UInt8} {o : Filt.Out} (h : ParseP s o) (w : World) : Calls Tryz.prog 8 #[str s] w fun e w' => ∃ v p, e = .returned (.tuple #[v, fi (codeR o), fi p]) ∧ Ext w w' ∧ ParseR s o :=
  (ref_parse s w).mono fun e w' ⟨o2, ho2, hx⟩ => by
    cases parse_same h ho2
    rcases o with (_ | n) | i
    · obtain ⟨rfl, hX⟩ := hx; exact ⟨_, _, rfl, hX, ho2⟩
    · obtain ⟨A, c, rfl, hX, -⟩ := hx; exact ⟨_, _, rfl, hX, ho2⟩
    · obtain ⟨rfl, hX⟩ := hx; exact ⟨_, _, rfl, hX, ho2⟩
theorem four_is {s t : List UInt8} {f g n : Nd} (hf : ParseP s (.ok (some f))) (hg : ParseP t (.ok (some g))) {k : Nat} (hk : k < 4) (hR : ParseR (four s t k) (.ok (some n))) (num : Nat → Nat → Int → Bool) (idt : Nat → List UInt8 → Bool) :
    holdsOf num idt n = fourB (holdsOf num idt f) (holdsOf num idt g) k := by
  rcases ref_some hR (four_blank s t k) with ⟨_, e⟩ | ⟨m, q, e, hr⟩
  · cases e
  cases e
  have a := isF_of hf
  have b := isF_of hg
  match k, hk with
  | 0, _ => cases reads_and a b hr; rfl
  | 1, _ => cases reads_or a b hr; rfl
  | 2, _ => cases reads_not_or a b hr; simp [holdsOf, fourB, Bool.not_and]
  | 3, _ => cases reads_not_and a b hr; rfl
theorem four_at (s t : List UInt8) {k : Nat} (hk : k < 4) : [str (tAnd s t), str (tOr s t), str (tNotOr s t), str (tNotAnd s t)][k]? = some (str (four s t k)) := by
  match k, hk with
  | 0, _ => rfl
  | 1, _ => rfl
  | 2, _ => rfl
  | 3, _ => rfl
theorem fourB_at {x0 x1 x2 x3 p q : Bool} (h0 : x0 = (p && q)) (h1 : x1 = (p || q)) (h2 : x2 = !(p && q)) (h3 : x3 = !(p && q)) {k : Nat} (hk : k < 4) : ([.bool x0, .bool x1, .bool x2, .bool x3] : List Value)[k]? = some (.bool (fourB p q k)) := by
  subst h0 h1 h2 h3
  match k, hk with
  | 0, _ => rfl
  | 1, _ => rfl
  | 2, _ => rfl
  | 3, _ => rfl
/-- at the loop's head -/
def LgRel (gW gL gA : Nat) (B L A : List Value) (w : World) (k : Nat) (wr : World) : Prop :=
  k ≤ 4 ∧ Mem (· < w.heap.size) w [bx gW 4 B, bx gL 9 L, bx gA 33 A] wr
set_option maxRecDepth 100000 in
set_option maxHeartbeats 4000000 in
theorem filterLogic_walk (s : List UInt8) (hs : s.length ≤ 1048576) (t : List UInt8) (ht : t.length ≤ 1048576) (a : Abt) (w : World) (hN : Nv w) (hg : Tryz.prog.globals.size ≤ w.heap.size) :
    Calls Tryz.prog 4 #[str s, str t, .agg a.cells.toArray] w fun e w' => e = .returned (.bool true) ∧ Ext w w' := by
  show Calls Tryz.prog 4 #[str s, str t, .agg #[fi a.a0, fi a.a1, fi a.a2, str a.id, fi a.a4, fi a.a5, fi a.a6, fi a.a7, fi a.a8, fi a.a9, fi a.a10, fi a.a11, fi a.a12, fi a.a13, fi a.a14, fi a.a15, fi a.a16]] w _
  have M := Mem.start w
  have q0 : ∀ w : World, (binOp BinOp.eql 22 (.pointer none) (.pointer none)).run Tryz.prog w = .ok (.bool true) w := fun _ => by kernel_rfl
  have q1 : ∀ (g : Nat) (w : World), (binOp BinOp.eql 22 (.pointer (some ⟨g, 0, none⟩)) (.pointer none)).run Tryz.prog w = .ok (.bool false) w := fun _ _ => by kernel_rfl
  have HP : Hid (∀ w', Ext w w' → ParseIs s w') := Lib.hid (fun w' hX => parse_any s w' (hN.ext hX) (Nat.le_trans hg hX.size))
  have HPT : Hid (∀ w', Ext w w' → ParseIs t w') := Lib.hid (fun w' hX => parse_any t w' (hN.ext hX) (Nat.le_trans hg hX.size))
  have HP4 : Hid (∀ k w', Ext w w' → ParseIs (four s t k) w') := Lib.hid (fun k w' hX => parse_any (four s t k) w' (hN.ext hX) (Nat.le_trans hg hX.size))
  have HNv := Lib.hid hN
  clear hN hg
  have C0 := Lib.hid (run_cat [40] s (by simp; omega))
  have C1 := Lib.hid (run_cat ([40] ++ s) [41, 32, 97, 110, 100, 32, 40] (by simp; omega))
  have C2 := Lib.hid (run_cat (([40] ++ s) ++ [41, 32, 97, 110, 100, 32, 40]) t (by simp; omega))
  have C3 := Lib.hid (run_cat ((([40] ++ s) ++ [41, 32, 97, 110, 100, 32, 40]) ++ t) [41] (by simp; omega))
  have C4 := Lib.hid (run_cat [40] s (by simp; omega))
  have C5 := Lib.hid (run_cat ([40] ++ s) [41, 32, 111, 114, 32, 40] (by simp; omega))
  have C6 := Lib.hid (run_cat (([40] ++ s) ++ [41, 32, 111, 114, 32, 40]) t (by simp; omega))
  have C7 := Lib.hid (run_cat ((([40] ++ s) ++ [41, 32, 111, 114, 32, 40]) ++ t) [41] (by simp; omega))
  have C8 := Lib.hid (run_cat [110, 111, 116, 32, 40] s (by simp; omega))
  have C9 := Lib.hid (run_cat ([110, 111, 116, 32, 40] ++ s) [41, 32, 111, 114, 32, 110, 111, 116, 32, 40] (by simp; omega))
  have C10 := Lib.hid (run_cat (([110, 111, 116, 32, 40] ++ s) ++ [41, 32, 111, 114, 32, 110, 111, 116, 32, 40]) t (by simp; omega))
  have C11 := Lib.hid (run_cat ((([110, 111, 116, 32, 40] ++ s) ++ [41, 32, 111, 114, 32, 110, 111, 116, 32, 40]) ++ t) [41] (by simp; omega))
  have C12 := Lib.hid (run_cat [110, 111, 116, 32, 40, 40] s (by simp; omega))
  have C13 := Lib.hid (run_cat ([110, 111, 116, 32, 40, 40] ++ s) [41, 32, 97, 110, 100, 32, 40] (by simp; omega))
  have C14 := Lib.hid (run_cat (([110, 111, 116, 32, 40, 40] ++ s) ++ [41, 32, 97, 110, 100, 32, 40]) t (by simp; omega))
  have C15 := Lib.hid (run_cat ((([110, 111, 116, 32, 40, 40] ++ s) ++ [41, 32, 97, 110, 100, 32, 40]) ++ t) [41, 41] (by simp; omega))
  have HS := Lib.hid hs
  have HT := Lib.hid ht
  clear hs ht
  go_enter Tryz.func4, Tryz.ntmps4
  (try dsimp only); (repeat (first | (first | (go_at_call 7; (with_reducible refine (HP.out _ M.ext_of).mono ?_); rintro e1 w1 ⟨o, ho, hx⟩; refine Hid.out ?_) | ((with_reducible refine wl_g ?_); first | go_big_want | go_skip | ((with_reducible refine wl_off (by kernel_rfl) ?_); (first | ((with_reducible refine fastK Tryz.prog rfl ?_); go_big_move) | (with_reducible refine fastN rfl ?_) | skip))) | ((with_reducible refine on_load ?_); (first | refine xl1 M ?_ | refine xlN M ?_); go_big_move) | ((with_reducible refine on_box ?_); refine xb M ?_; clear M; intro g w' M; go_big_move)) | go_values | go_skip | go_guarded | go_step | go_upon))
  obtain ⟨gA, hgA⟩ : ∃ x, x = g := ⟨_, rfl⟩
  subst hgA
  have HO1 := Lib.hid ho
  have HR1 := Lib.hid (fun w => ref_code ho w)
  clear ho
  rcases o with x | i
  · obtain ⟨g1, rfl, hX, hz, hB1⟩ := hx
    refine Lib.hid ?_
    replace M := M.ext hX
    clear hX hz
    dsimp only
    (try dsimp only); (repeat (first | (first | (go_at_call 7; (with_reducible refine (HPT.out _ M.ext_of).mono ?_); rintro e1 w1 ⟨o, ho, hx⟩; refine Hid.out ?_) | ((with_reducible refine wl_g ?_); first | go_big_want | go_skip | ((with_reducible refine wl_off (by kernel_rfl) ?_); (first | ((with_reducible refine fastK Tryz.prog rfl ?_); go_big_move) | (with_reducible refine fastN rfl ?_) | skip))) | ((with_reducible refine on_load ?_); (first | refine xl1 M ?_ | refine xlN M ?_); go_big_move) | ((with_reducible refine on_box ?_); refine xb M ?_; clear M; intro g w' M; go_big_move)) | go_values | go_skip | go_guarded | go_step | go_upon))
    have HO2 := Lib.hid ho
    have HR2 := Lib.hid (fun w => ref_code ho w)
    clear ho
    rcases o with y | j
    · obtain ⟨g2, rfl, hX, hz, hB2⟩ := hx
      refine Lib.hid ?_
      replace M := M.ext hX
      replace hB1 := hB1.ext hX
      clear hX hz HR1 HR2
      dsimp only
      have HE1 := Lib.hid (fun w => ref_empty s (Nat.le_trans HS.out (by decide)) w)
      have HE2 := Lib.hid (fun w => ref_empty t (Nat.le_trans HT.out (by decide)) w)
      obtain ⟨b1, hb1⟩ : ∃ b, holdsO a x = b := ⟨_, rfl⟩
      obtain ⟨b2, hb2⟩ : ∃ b, holdsO a y = b := ⟨_, rfl⟩
      have HH1 : Hid (∀ w', Ext w w' → Box w' g1 53 #[ndO x] → Calls Tryz.prog 9 #[.pointer (some ⟨g1, 0, none⟩), .agg #[fi a.a0, fi a.a1, fi a.a2, str a.id, fi a.a4, fi a.a5, fi a.a6, fi a.a7, fi a.a8, fi a.a9, fi a.a10, fi a.a11, fi a.a12, fi a.a13, fi a.a14, fi a.a15, fi a.a16]] w' fun e w'' => e = .returned (.bool b1) ∧ Ext w' w'') := Lib.hid (fun w' hX hB => by
        rw [← hb1]
        exact filter_holds a x (fun m hm => by cases hm; exact (parse_valid HO1.out).1) g1 w' (HNv.out.ext hX) hB)
      have HH2 : Hid (∀ w', Ext w w' → Box w' g2 53 #[ndO y] → Calls Tryz.prog 9 #[.pointer (some ⟨g2, 0, none⟩), .agg #[fi a.a0, fi a.a1, fi a.a2, str a.id, fi a.a4, fi a.a5, fi a.a6, fi a.a7, fi a.a8, fi a.a9, fi a.a10, fi a.a11, fi a.a12, fi a.a13, fi a.a14, fi a.a15, fi a.a16]] w' fun e w'' => e = .returned (.bool b2) ∧ Ext w' w'') := Lib.hid (fun w' hX hB => by
        rw [← hb2]
        exact filter_holds a y (fun m hm => by cases hm; exact (parse_valid HO2.out).1) g2 w' (HNv.out.ext hX) hB)
      rcases x with _ | f
      · rw [parse_none_all HO1.out] at HE1
        cases hb1
        rcases y with _ | g
        · rw [parse_none_all HO2.out] at HE2
          cases hb2
          dsimp only [holdsO] at HH1 HH2
          (try dsimp only); (repeat (first | (first | (go_at_call 9; (first | (with_reducible refine (HH1.out _ M.ext_of hB1).mono ?_) | (with_reducible refine (HH2.out _ M.ext_of hB2).mono ?_)); rintro _ w3 ⟨rfl, hX⟩; replace M := M.ext hX; replace hB1 := hB1.ext hX; replace hB2 := hB2.ext hX; clear hX; dsimp only) | (go_at_call 10; (first | (with_reducible refine (HE1.out _).mono ?_) | (with_reducible refine (HE2.out _).mono ?_)); rintro _ w3 ⟨rfl, rfl⟩; dsimp only) | ((with_reducible refine wl_g ?_); first | go_big_want | go_skip | ((with_reducible refine wl_off (by kernel_rfl) ?_); (first | ((with_reducible refine fastK Tryz.prog rfl ?_); go_big_move) | (with_reducible refine fastN rfl ?_) | skip))) | ((with_reducible refine on_load ?_); (first | refine xl1 M ?_ | refine xlN M ?_); go_big_move) | ((with_reducible refine on_box ?_); refine xb M ?_; clear M; intro g w' M; go_big_move)) | go_values | go_skip | go_guarded | go_step | go_upon))
          exact ret_m1 rfl (Out.tmp rfl) rfl ⟨rfl, M.ext_of⟩
        · rw [parse_some_all HO2.out] at HE2
          clear hb2
          dsimp only [holdsO] at HH1
          cases b2
          · (try dsimp only); (repeat (first | (first | (go_at_call 9; (first | (with_reducible refine (HH1.out _ M.ext_of hB1).mono ?_) | (with_reducible refine (HH2.out _ M.ext_of hB2).mono ?_)); rintro _ w3 ⟨rfl, hX⟩; replace M := M.ext hX; replace hB1 := hB1.ext hX; replace hB2 := hB2.ext hX; clear hX; dsimp only) | (go_at_call 10; (first | (with_reducible refine (HE1.out _).mono ?_) | (with_reducible refine (HE2.out _).mono ?_)); rintro _ w3 ⟨rfl, rfl⟩; dsimp only) | ((with_reducible refine wl_g ?_); first | go_big_want | go_skip | ((with_reducible refine wl_off (by kernel_rfl) ?_); (first | ((with_reducible refine fastK Tryz.prog rfl ?_); go_big_move) | (with_reducible refine fastN rfl ?_) | skip))) | ((with_reducible refine on_load ?_); (first | refine xl1 M ?_ | refine xlN M ?_); go_big_move) | ((with_reducible refine on_box ?_); refine xb M ?_; clear M; intro g w' M; go_big_move)) | go_values | go_skip | go_guarded | go_step | go_upon))
            exact ret_m1 rfl (Out.tmp rfl) rfl ⟨rfl, M.ext_of⟩
          · (try dsimp only); (repeat (first | (first | (go_at_call 9; (first | (with_reducible refine (HH1.out _ M.ext_of hB1).mono ?_) | (with_reducible refine (HH2.out _ M.ext_of hB2).mono ?_)); rintro _ w3 ⟨rfl, hX⟩; replace M := M.ext hX; replace hB1 := hB1.ext hX; replace hB2 := hB2.ext hX; clear hX; dsimp only) | (go_at_call 10; (first | (with_reducible refine (HE1.out _).mono ?_) | (with_reducible refine (HE2.out _).mono ?_)); rintro _ w3 ⟨rfl, rfl⟩; dsimp only) | ((with_reducible refine wl_g ?_); first | go_big_want | go_skip | ((with_reducible refine wl_off (by kernel_rfl) ?_); (first | ((with_reducible refine fastK Tryz.prog rfl ?_); go_big_move) | (with_reducible refine fastN rfl ?_) | skip))) | ((with_reducible refine on_load ?_); (first | refine xl1 M ?_ | refine xlN M ?_); go_big_move) | ((with_reducible refine on_box ?_); refine xb M ?_; clear M; intro g w' M; go_big_move)) | go_values | go_skip | go_guarded | go_step | go_upon))
            exact ret_m1 rfl (Out.tmp rfl) rfl ⟨rfl, M.ext_of⟩
      · rw [parse_some_all HO1.out] at HE1
        rcases y with _ | g
        · rw [parse_none_all HO2.out] at HE2
          cases hb2
          clear hb1
          dsimp only [holdsO] at HH2
          cases b1
          · (try dsimp only); (repeat (first | (first | (go_at_call 9; (first | (with_reducible refine (HH1.out _ M.ext_of hB1).mono ?_) | (with_reducible refine (HH2.out _ M.ext_of hB2).mono ?_)); rintro _ w3 ⟨rfl, hX⟩; replace M := M.ext hX; replace hB1 := hB1.ext hX; replace hB2 := hB2.ext hX; clear hX; dsimp only) | (go_at_call 10; (first | (with_reducible refine (HE1.out _).mono ?_) | (with_reducible refine (HE2.out _).mono ?_)); rintro _ w3 ⟨rfl, rfl⟩; dsimp only) | ((with_reducible refine wl_g ?_); first | go_big_want | go_skip | ((with_reducible refine wl_off (by kernel_rfl) ?_); (first | ((with_reducible refine fastK Tryz.prog rfl ?_); go_big_move) | (with_reducible refine fastN rfl ?_) | skip))) | ((with_reducible refine on_load ?_); (first | refine xl1 M ?_ | refine xlN M ?_); go_big_move) | ((with_reducible refine on_box ?_); refine xb M ?_; clear M; intro g w' M; go_big_move)) | go_values | go_skip | go_guarded | go_step | go_upon))
            exact ret_m1 rfl (Out.tmp rfl) rfl ⟨rfl, M.ext_of⟩
          · (try dsimp only); (repeat (first | (first | (go_at_call 9; (first | (with_reducible refine (HH1.out _ M.ext_of hB1).mono ?_) | (with_reducible refine (HH2.out _ M.ext_of hB2).mono ?_)); rintro _ w3 ⟨rfl, hX⟩; replace M := M.ext hX; replace hB1 := hB1.ext hX; replace hB2 := hB2.ext hX; clear hX; dsimp only) | (go_at_call 10; (first | (with_reducible refine (HE1.out _).mono ?_) | (with_reducible refine (HE2.out _).mono ?_)); rintro _ w3 ⟨rfl, rfl⟩; dsimp only) | ((with_reducible refine wl_g ?_); first | go_big_want | go_skip | ((with_reducible refine wl_off (by kernel_rfl) ?_); (first | ((with_reducible refine fastK Tryz.prog rfl ?_); go_big_move) | (with_reducible refine fastN rfl ?_) | skip))) | ((with_reducible refine on_load ?_); (first | refine xl1 M ?_ | refine xlN M ?_); go_big_move) | ((with_reducible refine on_box ?_); refine xb M ?_; clear M; intro g w' M; go_big_move)) | go_values | go_skip | go_guarded | go_step | go_upon))
            exact ret_m1 rfl (Out.tmp rfl) rfl ⟨rfl, M.ext_of⟩
        · rw [parse_some_all HO2.out] at HE2
          have HQ : Hid (∀ (k : Nat) (n : Nd), k < 4 → ParseR (four s t k) (.ok (some n)) → holdsOf (numB a) (idtB a) n = fourB b1 b2 k) := Lib.hid (fun k n hk hR => by
            rw [← hb1, ← hb2]
            exact four_is HO1.out HO2.out hk hR _ _)
          clear hb1 hb2
          (try dsimp only); (repeat (go_not_at_region 12; first | (first | (go_at_call 9; (first | (with_reducible refine (HH1.out _ M.ext_of hB1).mono ?_) | (with_reducible refine (HH2.out _ M.ext_of hB2).mono ?_)); rintro _ w3 ⟨rfl, hX⟩; replace M := M.ext hX; replace hB1 := hB1.ext hX; replace hB2 := hB2.ext hX; clear hX; dsimp only) | (go_at_call 10; (first | (with_reducible refine (HE1.out _).mono ?_) | (with_reducible refine (HE2.out _).mono ?_)); rintro _ w3 ⟨rfl, rfl⟩; dsimp only) | ((with_reducible refine on_bin ?_); (first | (refine wp_bin rfl rfl rfl rfl (C0.out _) ?_) | (refine wp_bin rfl rfl rfl rfl (C1.out _) ?_) | (refine wp_bin rfl rfl rfl rfl (C2.out _) ?_) | (refine wp_bin rfl rfl rfl rfl (C3.out _) ?_) | (refine wp_bin rfl rfl rfl rfl (C4.out _) ?_) | (refine wp_bin rfl rfl rfl rfl (C5.out _) ?_) | (refine wp_bin rfl rfl rfl rfl (C6.out _) ?_) | (refine wp_bin rfl rfl rfl rfl (C7.out _) ?_) | (refine wp_bin rfl rfl rfl rfl (C8.out _) ?_) | (refine wp_bin rfl rfl rfl rfl (C9.out _) ?_) | (refine wp_bin rfl rfl rfl rfl (C10.out _) ?_) | (refine wp_bin rfl rfl rfl rfl (C11.out _) ?_) | (refine wp_bin rfl rfl rfl rfl (C12.out _) ?_) | (refine wp_bin rfl rfl rfl rfl (C13.out _) ?_) | (refine wp_bin rfl rfl rfl rfl (C14.out _) ?_) | (refine wp_bin rfl rfl rfl rfl (C15.out _) ?_)); (first | ((with_reducible refine fastK Tryz.prog rfl ?_); go_big_move) | (with_reducible refine fastN rfl ?_) | skip)) | ((with_reducible refine on_slice ?_); refine wp_slice M strElem _ rfl _ (by (repeat (first | exact Parts.nil | (apply Parts.cons; (first | exact CellsOf.agg _ | exact CellsOf.int _ _ | exact CellsOf.str _ | exact CellsOf.bool _ | exact CellsOf.slice _ _ _ | exact CellsOf.pointer _); rfl))); done) (by rfl) (by decide) (by decide) ?_; clear M; intro g w' M; (try simp only [List.cons_append, List.nil_append] at M); (first | ((with_reducible refine fastK Tryz.prog rfl ?_); go_big_move) | (with_reducible refine fastN rfl ?_) | skip)) | ((with_reducible refine wl_g ?_); first | go_big_want | go_skip | ((with_reducible refine wl_off (by kernel_rfl) ?_); (first | ((with_reducible refine fastK Tryz.prog rfl ?_); go_big_move) | (with_reducible refine fastN rfl ?_) | skip))) | ((with_reducible refine on_load ?_); (first | refine xl1 M ?_ | refine xlN M ?_); go_big_move) | ((with_reducible refine on_box ?_); refine xb M ?_; clear M; intro g w' M; go_big_move)) | go_values | go_skip | go_guarded | go_step | go_upon))
          obtain ⟨gL, hgL⟩ : ∃ x, x = g := ⟨_, rfl⟩
          subst hgL
          clear HH1 HH2 hB1 hB2 HE1 HE2 HP HPT HO1 HO2 C0 C1 C2 C3 C4 C5 C6 C7 C8 C9 C10 C11 C12 C13 C14 C15
          obtain ⟨L, HL, M⟩ : ∃ L, Hid (∀ k, k < 4 → L[k]? = some (str (four s t k))) ∧ Mem (· < w.heap.size) w [bx gL 9 L, bx gA 33 [fi a.a0, fi a.a1, fi a.a2, str a.id, fi a.a4, fi a.a5, fi a.a6, fi a.a7, fi a.a8, fi a.a9, fi a.a10, fi a.a11, fi a.a12, fi a.a13, fi a.a14, fi a.a15, fi a.a16]] _ := ⟨_, Lib.hid (fun k hk => four_at s t hk), M⟩
          go_cut [22] from 128 to 146 (fun v wx => ∃ gW B, v = .slice (some ⟨gW, 0, none⟩) 4 4 ∧ Hid (∀ k, k < 4 → B[k]? = some (.bool (fourB b1 b2 k))) ∧ Mem (· < w.heap.size) w [bx gW 4 B, bx gL 9 L, bx gA 33 [fi a.a0, fi a.a1, fi a.a2, str a.id, fi a.a4, fi a.a5, fi a.a6, fi a.a7, fi a.a8, fi a.a9, fi a.a10, fi a.a11, fi a.a12, fi a.a13, fi a.a14, fi a.a15, fi a.a16]] wx)
          case first =>
            cases b1 <;> cases b2
            · (try dsimp only); (repeat (first | (first | ((with_reducible refine on_slice ?_); refine wp_slice M lbElem _ rfl _ (by (repeat (first | exact Parts.nil | (apply Parts.cons; (first | exact CellsOf.agg _ | exact CellsOf.int _ _ | exact CellsOf.str _ | exact CellsOf.bool _ | exact CellsOf.slice _ _ _ | exact CellsOf.pointer _); rfl))); done) (by rfl) (by decide) (by decide) ?_; clear M; intro g w' M; (try simp only [List.cons_append, List.nil_append] at M); (first | ((with_reducible refine fastK Tryz.prog rfl ?_); go_big_move) | (with_reducible refine fastN rfl ?_) | skip)) | ((with_reducible refine wl_g ?_); first | go_big_want | go_skip | ((with_reducible refine wl_off (by kernel_rfl) ?_); (first | ((with_reducible refine fastK Tryz.prog rfl ?_); go_big_move) | (with_reducible refine fastN rfl ?_) | skip))) | ((with_reducible refine on_load ?_); (first | refine xl1 M ?_ | refine xlN M ?_); go_big_move) | ((with_reducible refine on_box ?_); refine xb M ?_; clear M; intro g w' M; go_big_move)) | go_values | go_skip | go_guarded | go_step | go_upon))
              go_meet
              exact ⟨_, _, rfl, Lib.hid (fun k hk => fourB_at rfl rfl rfl rfl hk), M⟩
            · (try dsimp only); (repeat (first | (first | ((with_reducible refine on_slice ?_); refine wp_slice M lbElem _ rfl _ (by (repeat (first | exact Parts.nil | (apply Parts.cons; (first | exact CellsOf.agg _ | exact CellsOf.int _ _ | exact CellsOf.str _ | exact CellsOf.bool _ | exact CellsOf.slice _ _ _ | exact CellsOf.pointer _); rfl))); done) (by rfl) (by decide) (by decide) ?_; clear M; intro g w' M; (try simp only [List.cons_append, List.nil_append] at M); (first | ((with_reducible refine fastK Tryz.prog rfl ?_); go_big_move) | (with_reducible refine fastN rfl ?_) | skip)) | ((with_reducible refine wl_g ?_); first | go_big_want | go_skip | ((with_reducible refine wl_off (by kernel_rfl) ?_); (first | ((with_reducible refine fastK Tryz.prog rfl ?_); go_big_move) | (with_reducible refine fastN rfl ?_) | skip))) | ((with_reducible refine on_load ?_); (first | refine xl1 M ?_ | refine xlN M ?_); go_big_move) | ((with_reducible refine on_box ?_); refine xb M ?_; clear M; intro g w' M; go_big_move)) | go_values | go_skip | go_guarded | go_step | go_upon))
              go_meet
              exact ⟨_, _, rfl, Lib.hid (fun k hk => fourB_at rfl rfl rfl rfl hk), M⟩
            · (try dsimp only); (repeat (first | (first | ((with_reducible refine on_slice ?_); refine wp_slice M lbElem _ rfl _ (by (repeat (first | exact Parts.nil | (apply Parts.cons; (first | exact CellsOf.agg _ | exact CellsOf.int _ _ | exact CellsOf.str _ | exact CellsOf.bool _ | exact CellsOf.slice _ _ _ | exact CellsOf.pointer _); rfl))); done) (by rfl) (by decide) (by decide) ?_; clear M; intro g w' M; (try simp only [List.cons_append, List.nil_append] at M); (first | ((with_reducible refine fastK Tryz.prog rfl ?_); go_big_move) | (with_reducible refine fastN rfl ?_) | skip)) | ((with_reducible refine wl_g ?_); first | go_big_want | go_skip | ((with_reducible refine wl_off (by kernel_rfl) ?_); (first | ((with_reducible refine fastK Tryz.prog rfl ?_); go_big_move) | (with_reducible refine fastN rfl ?_) | skip))) | ((with_reducible refine on_load ?_); (first | refine xl1 M ?_ | refine xlN M ?_); go_big_move) | ((with_reducible refine on_box ?_); refine xb M ?_; clear M; intro g w' M; go_big_move)) | go_values | go_skip | go_guarded | go_step | go_upon))
              go_meet
              exact ⟨_, _, rfl, Lib.hid (fun k hk => fourB_at rfl rfl rfl rfl hk), M⟩
            · (try dsimp only); (repeat (first | (first | ((with_reducible refine on_slice ?_); refine wp_slice M lbElem _ rfl _ (by (repeat (first | exact Parts.nil | (apply Parts.cons; (first | exact CellsOf.agg _ | exact CellsOf.int _ _ | exact CellsOf.str _ | exact CellsOf.bool _ | exact CellsOf.slice _ _ _ | exact CellsOf.pointer _); rfl))); done) (by rfl) (by decide) (by decide) ?_; clear M; intro g w' M; (try simp only [List.cons_append, List.nil_append] at M); (first | ((with_reducible refine fastK Tryz.prog rfl ?_); go_big_move) | (with_reducible refine fastN rfl ?_) | skip)) | ((with_reducible refine wl_g ?_); first | go_big_want | go_skip | ((with_reducible refine wl_off (by kernel_rfl) ?_); (first | ((with_reducible refine fastK Tryz.prog rfl ?_); go_big_move) | (with_reducible refine fastN rfl ?_) | skip))) | ((with_reducible refine on_load ?_); (first | refine xl1 M ?_ | refine xlN M ?_); go_big_move) | ((with_reducible refine on_box ?_); refine xb M ?_; clear M; intro g w' M; go_big_move)) | go_values | go_skip | go_guarded | go_step | go_upon))
              go_meet
              exact ⟨_, _, rfl, Lib.hid (fun k hk => fourB_at rfl rfl rfl rfl hk), M⟩
          case rest =>
            clear M
            obtain ⟨gW, B, rfl, HB, M⟩ := hcut
            (try dsimp only); (repeat (first | (first | fail | ((with_reducible refine on_load ?_); (first | refine xl1 M ?_ | refine xlN M ?_); go_big_move) | ((with_reducible refine on_box ?_); refine xb M ?_; clear M; intro g w' M; go_big_move)) | go_values | go_skip | go_guarded | go_step | go_upon))
            go_loopw [23] (fun x wr => ∃ k : Nat, x = fi (k : Int) ∧ LgRel gW gL gA B L [fi a.a0, fi a.a1, fi a.a2, str a.id, fi a.a4, fi a.a5, fi a.a6, fi a.a7, fi a.a8, fi a.a9, fi a.a10, fi a.a11, fi a.a12, fi a.a13, fi a.a14, fi a.a15, fi a.a16] w k wr) (fun x _ => 4 - (intOf x).toNat)
            · exact ⟨0, rfl, by omega, M⟩
            · clear M
              obtain ⟨k, rfl, hk, M⟩ := hrel
              by_cases hlt : k < 4
              · have q2 : decide ((k : Int) < 4) = true := by simp; omega
                have hwk : IntKind.i64.wrap ((k : Int) + 1) = (k : Int) + 1 := IntWalk.i64_in _ (by omega)
                have HLk := Lib.hid (HL.out k hlt)
                have HBk := Lib.hid (HB.out k hlt)
                have HPk := Lib.hid (fun w' hX => HP4.out k w' hX)
                have HQk := Lib.hid (fun n => HQ.out k n hlt)
                have HNB := Lib.hid (four_blank s t k)
                generalize four s t k = u at HLk HPk HQk HNB
                generalize fourB b1 b2 k = fb at HBk HQk
                clear HL HB HP4 HQ
                (try dsimp only); (repeat (first | (first | (go_at_call 7; (with_reducible refine (HPk.out _ M.ext_of).mono ?_); rintro e1 w1 ⟨o, ho, hx⟩; refine Hid.out ?_) | ((with_reducible refine on_load ?_); refine xlC (M.at_ pk k _ HLk.out) ?_; go_big_move) | ((with_reducible refine wl_g ?_); first | go_big_want | go_skip | ((with_reducible refine wl_off (by kernel_rfl) ?_); (first | ((with_reducible refine fastK Tryz.prog rfl ?_); go_big_move) | (with_reducible refine fastN rfl ?_) | skip))) | ((with_reducible refine on_load ?_); (first | refine xl1 M ?_ | refine xlN M ?_); go_big_move) | ((with_reducible refine on_box ?_); refine xb M ?_; clear M; intro g w' M; go_big_move)) | go_values | go_skip | go_guarded | go_step | go_upon))
                rcases o with (_ | n) | i
                · exact absurd (parse_none_all ho) (by rw [HNB.out]; decide)
                · have HR := Lib.hid (fun w => ref_code2 ho w)
                  have HV := Lib.hid (parse_valid ho).1
                  clear ho
                  obtain ⟨g3, rfl, hX, hz, hB3⟩ := hx
                  refine Lib.hid ?_
                  replace M := M.ext hX
                  clear hX hz
                  dsimp only
                  dsimp only [codeR] at HR
                  (try dsimp only); (repeat (first | (first | (go_at_call 8; (with_reducible refine (HR.out _).mono ?_); rintro _ w2 ⟨rv, rp, rfl, hX, hPR⟩; refine Hid.out ?_) | ((with_reducible refine on_load ?_); refine xlC (M.at_ pk k _ HLk.out) ?_; go_big_move) | ((with_reducible refine wl_g ?_); first | go_big_want | go_skip | ((with_reducible refine wl_off (by kernel_rfl) ?_); (first | ((with_reducible refine fastK Tryz.prog rfl ?_); go_big_move) | (with_reducible refine fastN rfl ?_) | skip))) | ((with_reducible refine on_load ?_); (first | refine xl1 M ?_ | refine xlN M ?_); go_big_move) | ((with_reducible refine on_box ?_); refine xb M ?_; clear M; intro g w' M; go_big_move)) | go_values | go_skip | go_guarded | go_step | go_upon))
                  have HH3 : Hid (∀ w', Ext w w' → Box w' g3 53 #[ndO (some n)] → Calls Tryz.prog 9 #[.pointer (some ⟨g3, 0, none⟩), .agg #[fi a.a0, fi a.a1, fi a.a2, str a.id, fi a.a4, fi a.a5, fi a.a6, fi a.a7, fi a.a8, fi a.a9, fi a.a10, fi a.a11, fi a.a12, fi a.a13, fi a.a14, fi a.a15, fi a.a16]] w' fun e w'' => e = .returned (.bool fb) ∧ Ext w' w'') := Lib.hid (fun w' hX hB => by
                    rw [← HQk.out n hPR]
                    exact filter_holds a (some n) (fun m hm => by cases hm; exact HV.out) g3 w' (HNv.out.ext hX) hB)
                  clear hPR
                  refine Lib.hid ?_
                  replace M := M.ext hX
                  replace hB3 := hB3.ext hX
                  clear hX
                  dsimp only
                  have g4 : (fb != fb) = false := by simp
                  (try dsimp only); (repeat (first | (first | (go_at_call 9; (with_reducible refine (HH3.out _ M.ext_of hB3).mono ?_); rintro _ w3 ⟨rfl, hX⟩; replace M := M.ext hX; clear hX; dsimp only) | ((with_reducible refine on_load ?_); refine xlC (M.at_ pk k _ HBk.out) ?_; go_big_move) | ((with_reducible refine wl_g ?_); first | go_big_want | go_skip | ((with_reducible refine wl_off (by kernel_rfl) ?_); (first | ((with_reducible refine fastK Tryz.prog rfl ?_); go_big_move) | (with_reducible refine fastN rfl ?_) | skip))) | ((with_reducible refine on_load ?_); (first | refine xl1 M ?_ | refine xlN M ?_); go_big_move) | ((with_reducible refine on_box ?_); refine xb M ?_; clear M; intro g w' M; go_big_move)) | go_values | go_skip | go_guarded | go_step | go_upon))
                  exact ⟨⟨k + 1, by go_num, by omega, M⟩, by simp [intOf]; omega⟩
                · have HR := Lib.hid (fun w => ref_code ho w)
                  clear ho
                  obtain ⟨rfl, hX⟩ := hx
                  refine Lib.hid ?_
                  replace M := M.ext hX
                  clear hX
                  dsimp only
                  dsimp only [codeR] at HR
                  (try dsimp only); (repeat (first | (first | (go_at_call 8; (with_reducible refine (HR.out _).mono ?_); rintro _ w2 ⟨rv, rp, rfl, hX⟩; replace M := M.ext hX; clear hX; dsimp only) | ((with_reducible refine on_load ?_); refine xlC (M.at_ pk k _ HLk.out) ?_; go_big_move) | ((with_reducible refine wl_g ?_); first | go_big_want | go_skip | ((with_reducible refine wl_off (by kernel_rfl) ?_); (first | ((with_reducible refine fastK Tryz.prog rfl ?_); go_big_move) | (with_reducible refine fastN rfl ?_) | skip))) | ((with_reducible refine on_load ?_); (first | refine xl1 M ?_ | refine xlN M ?_); go_big_move) | ((with_reducible refine on_box ?_); refine xb M ?_; clear M; intro g w' M; go_big_move)) | go_values | go_skip | go_guarded | go_step | go_upon))
                  exact ⟨⟨k + 1, by go_num, by omega, M⟩, by simp [intOf]; omega⟩
              · have q2 : decide ((k : Int) < 4) = false := by simp; omega
                (try dsimp only); (repeat (first | (first | ((with_reducible refine wl_g ?_); first | go_big_want | go_skip | ((with_reducible refine wl_off (by kernel_rfl) ?_); (first | ((with_reducible refine fastK Tryz.prog rfl ?_); go_big_move) | (with_reducible refine fastN rfl ?_) | skip))) | ((with_reducible refine on_load ?_); (first | refine xl1 M ?_ | refine xlN M ?_); go_big_move) | ((with_reducible refine on_box ?_); refine xb M ?_; clear M; intro g w' M; go_big_move)) | go_values | go_skip | go_guarded | go_step | go_upon))
                exact ret_m1 rfl (Out.tmp rfl) rfl ⟨rfl, M.ext_of⟩
    · obtain ⟨rfl, hX⟩ := hx
      refine Lib.hid ?_
      replace M := M.ext hX
      clear hX hB1
      dsimp only
      dsimp only [codeR] at HR1 HR2
      (try dsimp only); (repeat (first | (first | (go_at_call 8; (first | (with_reducible refine (HR1.out _).mono ?_) | (with_reducible refine (HR2.out _).mono ?_)); rintro _ w2 ⟨rv, rp, rfl, hX⟩; replace M := M.ext hX; clear hX; dsimp only) | ((with_reducible refine wl_g ?_); first | go_big_want | go_skip | ((with_reducible refine wl_off (by kernel_rfl) ?_); (first | ((with_reducible refine fastK Tryz.prog rfl ?_); go_big_move) | (with_reducible refine fastN rfl ?_) | skip))) | ((with_reducible refine on_load ?_); (first | refine xl1 M ?_ | refine xlN M ?_); go_big_move) | ((with_reducible refine on_box ?_); refine xb M ?_; clear M; intro g w' M; go_big_move)) | go_values | go_skip | go_guarded | go_step | go_upon))
      exact ret_m1 rfl (Out.tmp rfl) rfl ⟨rfl, M.ext_of⟩
  · obtain ⟨rfl, hX⟩ := hx
    refine Lib.hid ?_
    replace M := M.ext hX
    clear hX
    dsimp only
    (try dsimp only); (repeat (first | (first | (go_at_call 7; (with_reducible refine (HPT.out _ M.ext_of).mono ?_); rintro e1 w1 ⟨o, ho, hx⟩; refine Hid.out ?_) | ((with_reducible refine wl_g ?_); first | go_big_want | go_skip | ((with_reducible refine wl_off (by kernel_rfl) ?_); (first | ((with_reducible refine fastK Tryz.prog rfl ?_); go_big_move) | (with_reducible refine fastN rfl ?_) | skip))) | ((with_reducible refine on_load ?_); (first | refine xl1 M ?_ | refine xlN M ?_); go_big_move) | ((with_reducible refine on_box ?_); refine xb M ?_; clear M; intro g w' M; go_big_move)) | go_values | go_skip | go_guarded | go_step | go_upon))
    have HR2 := Lib.hid (fun w => ref_code ho w)
    rcases o with y | j
    · obtain ⟨g2, rfl, hX, hz, hB2⟩ := hx
      refine Lib.hid ?_
      replace M := M.ext hX
      clear hX hz hB2 ho
      dsimp only
      dsimp only [codeR] at HR1 HR2
      (try dsimp only); (repeat (first | (first | (go_at_call 8; (first | (with_reducible refine (HR1.out _).mono ?_) | (with_reducible refine (HR2.out _).mono ?_)); rintro _ w2 ⟨rv, rp, rfl, hX⟩; replace M := M.ext hX; clear hX; dsimp only) | ((with_reducible refine wl_g ?_); first | go_big_want | go_skip | ((with_reducible refine wl_off (by kernel_rfl) ?_); (first | ((with_reducible refine fastK Tryz.prog rfl ?_); go_big_move) | (with_reducible refine fastN rfl ?_) | skip))) | ((with_reducible refine on_load ?_); (first | refine xl1 M ?_ | refine xlN M ?_); go_big_move) | ((with_reducible refine on_box ?_); refine xb M ?_; clear M; intro g w' M; go_big_move)) | go_values | go_skip | go_guarded | go_step | go_upon))
      exact ret_m1 rfl (Out.tmp rfl) rfl ⟨rfl, M.ext_of⟩
    · obtain ⟨rfl, hX⟩ := hx
      refine Lib.hid ?_
      replace M := M.ext hX
      clear hX ho
      dsimp only
      dsimp only [codeR] at HR1 HR2
      (try dsimp only); (repeat (first | (first | (go_at_call 8; (first | (with_reducible refine (HR1.out _).mono ?_) | (with_reducible refine (HR2.out _).mono ?_)); rintro _ w2 ⟨rv, rp, rfl, hX⟩; replace M := M.ext hX; clear hX; dsimp only) | ((with_reducible refine wl_g ?_); first | go_big_want | go_skip | ((with_reducible refine wl_off (by kernel_rfl) ?_); (first | ((with_reducible refine fastK Tryz.prog rfl ?_); go_big_move) | (with_reducible refine fastN rfl ?_) | skip))) | ((with_reducible refine on_load ?_); (first | refine xl1 M ?_ | refine xlN M ?_); go_big_move) | ((with_reducible refine on_box ?_); refine xb M ?_; clear M; intro g w' M; go_big_move)) | go_values | go_skip | go_guarded | go_step | go_upon))
      exact ret_m1 rfl (Out.tmp rfl) rfl ⟨rfl, M.ext_of⟩
end Go.Proofs.YtkblkdnihppmnaaGreatDoor
