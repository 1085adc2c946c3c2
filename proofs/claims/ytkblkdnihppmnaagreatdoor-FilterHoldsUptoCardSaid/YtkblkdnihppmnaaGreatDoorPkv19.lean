/- Parts of this work, one behind the other: Rndb. -/
import Derived.Test.YtkblkdnihppmnaaGreatDoorPkv16
/- Filters (layer 21): the document's tokens (walk, db; printed by gen_rn.py). -/
namespace Go.Proofs.YtkblkdnihppmnaaGreatDoor
set_option linter.unusedSimpArgs false
set_option linter.unusedVariables false
open Go.RowKit Res Filt

set_option maxRecDepth 100000 in
set_option maxHeartbeats 800000 in
theorem rnext_digit_bad (s : List UInt8) (hs : s.length ≤ 1048576) (gr p : Nat) (hp : p ≤ s.length) (w : World) (h0 : w.cell? ⟨gr, 0, none⟩ = some (str s)) (h1 : w.cell? ⟨gr, 1, none⟩ = some (fi (p : Int))) (i : Nat) (hi : startOf s p = i) (c : UInt8) (hc : s[i]? = some c) (hsm : isSmall c = false) (hdg : isDigit c = true) (j : Nat) (hj : i + 1 + runLen isDigit (s.drop (i + 1)) = j) (hn : (numOf ((s.drop i).take (j - i))).isSome = false) :
    Calls Tryz.prog 19 #[.pointer (some ⟨gr, 0, none⟩)] w fun e w' => e = .returned (.agg #[fi 5, fi (i : Int), fi (j : Int), str ((s.drop i).take (j - i))]) ∧ Ext w w' := by
  have M := Mem.start w
  have H0 := Lib.hid h0
  have H1 := Lib.hid h1
  have HS3 : Hid (i = p + runLen isBlank (s.drop p)) := Lib.hid hi.symm
  clear h0 h1 hi
  go_enter Tryz.func19, Tryz.ntmps19
  (try dsimp only); (repeat (first | (first | ((with_reducible refine on_load ?_); refine xlC (M.far H0.out) ?_; go_big_move) | ((with_reducible refine on_load ?_); refine xlC (M.far H1.out) ?_; go_big_move) | ((with_reducible refine wl_g ?_); first | go_big_want | go_skip | ((with_reducible refine wl_off (by kernel_rfl) ?_); (first | ((with_reducible refine fastK Tryz.prog rfl ?_); go_big_move) | (with_reducible refine fastN rfl ?_) | skip))) | ((with_reducible refine on_load ?_); (first | refine xl1 M ?_ | refine xlN M ?_); go_big_move) | ((with_reducible refine on_store ?_); (first | refine xs1 M ?_ | refine xsN M ?_); clear M; intro w' M; (try simp only [List.set_cons_zero, List.set_cons_succ] at M)) | ((with_reducible refine on_alloc ?_); refine xa M ?_; clear M; intro g w' M; go_big_move)) | go_values | go_skip | go_guarded | go_step | go_upon))
  go_loop [3] (fun x => ∃ m : Nat, m ≤ s.length ∧ x = fi (m : Int) ∧ Hid (i = m + runLen isBlank (s.drop m))) (fun x => s.length - (intOf x).toNat)
  case atStart => exact ⟨p, by omega, by go_num, HS3⟩
  case round =>
    obtain ⟨m, hm, rfl, hh⟩ := hrel
    by_cases hbl : ∃ c, s[m]? = some c ∧ isBlank c = true
    · obtain ⟨c, hcm, hcb⟩ := hbl
      have hml : m < s.length := (List.getElem?_eq_some_iff.1 hcm).1
      have q1 : decide ((m : Int) < (s.length : Int)) = true := by simp; omega
      have hwm : IntKind.i64.wrap ((m : Int) + 1) = (m : Int) + 1 := IntWalk.i64_in _ (by omega)
      have hst := runLen_step (p := isBlank) hcm
      rw [if_pos hcb] at hst
      have HN : Hid (i = (m + 1) + runLen isBlank (s.drop (m + 1))) := Lib.hid (by rw [hh.out, hst]; omega)
      have HCM := Lib.hid hcm
      have q2 : ((c.toNat : Int) == 32) = true := by have := of_decide_eq_true hcb; rw [beq_iff_eq]; omega
      clear hst hcm hcb hh
      (try dsimp only); (repeat (first | (first | ((with_reducible refine on_load ?_); refine xlC (M.far H0.out) ?_; go_big_move) | ((with_reducible refine on_load ?_); refine xlC (M.far H1.out) ?_; go_big_move) | ((with_reducible refine on_indexT ?_); refine wp_indexT _ _ _ rfl Tryz.underlying9 s rfl _ m (by first | rfl | (simp; done)) c HCM.out ?_; (first | ((with_reducible refine fastK Tryz.prog rfl ?_); go_big_move) | (with_reducible refine fastN rfl ?_) | skip)) | ((with_reducible refine wl_g ?_); first | go_big_want | go_skip | ((with_reducible refine wl_off (by kernel_rfl) ?_); (first | ((with_reducible refine fastK Tryz.prog rfl ?_); go_big_move) | (with_reducible refine fastN rfl ?_) | skip))) | ((with_reducible refine on_load ?_); (first | refine xl1 M ?_ | refine xlN M ?_); go_big_move) | ((with_reducible refine on_store ?_); (first | refine xs1 M ?_ | refine xsN M ?_); clear M; intro w' M; (try simp only [List.set_cons_zero, List.set_cons_succ] at M)) | ((with_reducible refine on_alloc ?_); refine xa M ?_; clear M; intro g w' M; go_big_move)) | go_values | go_skip | go_guarded | go_step | go_upon))
      exact ⟨⟨m + 1, by omega, by go_num, HN⟩, by simp [intOf]; omega⟩
    · have hmg : m = i := by
        rw [hh.out]
        rcases Nat.lt_or_ge m s.length with hlt | hge
        · obtain ⟨c, hcm⟩ : ∃ c, s[m]? = some c := ⟨_, List.getElem?_eq_getElem hlt⟩
          rw [runLen_step (p := isBlank) hcm, if_neg (fun e => hbl ⟨c, hcm, e⟩), Nat.add_zero]
        · rw [List.drop_eq_nil_of_le hge]; rfl
      clear hh
      subst hmg
      obtain ⟨hml, q2⟩ : m < s.length ∧ ((c.toNat : Int) == 32) = false := by
        refine ⟨(List.getElem?_eq_some_iff.1 hc).1, ?_⟩
        rw [beq_eq_false_iff_ne]
        intro e
        exact hbl ⟨c, hc, by unfold isBlank; rw [decide_eq_true_eq]; omega⟩
      have HC := Lib.hid hc
      have q1 : decide ((m : Int) < (s.length : Int)) = true := by simp; omega
      have q3 : ((m : Int) == (s.length : Int)) = false := by rw [beq_eq_false_iff_ne]; omega
      have hw1 : IntKind.i64.wrap ((m : Int) + 1) = (m : Int) + 1 := IntWalk.i64_in _ (by omega)
      have hc256 : c.toNat < 256 := c.toNat_lt
      clear hc
      clear hbl
      have HL : Hid (∀ w', Calls Tryz.prog 39 #[.int .u8 (c.toNat : Int)] w' fun e w'' => e = .returned (.bool false) ∧ w' = w'') := Lib.hid (fun w' => by rw [← hsm]; exact ref_letter c w')
      have HD : Hid (∀ w', Calls Tryz.prog 40 #[.int .u8 (c.toNat : Int)] w' fun e w'' => e = .returned (.bool true) ∧ w' = w'') := Lib.hid (fun w' => by rw [← hdg]; exact ref_digit c w')
      have hij : m < j := by omega
      have hjl : j ≤ s.length := by rw [← hj]; exact run_le (by omega)
      have HS5 : Hid (j = m + 1 + runLen isDigit (s.drop (m + 1))) := Lib.hid hj.symm
      have HNU : Hid (∀ w, Calls Tryz.prog 41 #[str ((s.drop m).take (j - m))] w fun e w' => e = .returned (.tuple #[fi (numR ((s.drop m).take (j - m))).1, .bool false]) ∧ Ext w w') := Lib.hid (fun w => by
        have h := ref_number ((s.drop m).take (j - m)) (by rw [List.length_take, List.length_drop]; omega) w
        rwa [(numR_of _).1, hn] at h)
      clear hj hsm hdg hn
      (try dsimp only); (repeat (first | (first | ((with_reducible refine on_load ?_); refine xlC (M.far H0.out) ?_; go_big_move) | ((with_reducible refine on_load ?_); refine xlC (M.far H1.out) ?_; go_big_move) | ((with_reducible refine on_indexT ?_); refine wp_indexT _ _ _ rfl Tryz.underlying9 s rfl _ m (by first | rfl | (simp; done)) c HC.out ?_; (first | ((with_reducible refine fastK Tryz.prog rfl ?_); go_big_move) | (with_reducible refine fastN rfl ?_) | skip)) | (go_at_call 39; (with_reducible refine (HL.out _).mono ?_); rintro _ w1 ⟨rfl, rfl⟩; dsimp only) | (go_at_call 40; (with_reducible refine (HD.out _).mono ?_); rintro _ w1 ⟨rfl, rfl⟩; dsimp only) | ((with_reducible refine wl_g ?_); first | go_big_want | go_skip | ((with_reducible refine wl_off (by kernel_rfl) ?_); (first | ((with_reducible refine fastK Tryz.prog rfl ?_); go_big_move) | (with_reducible refine fastN rfl ?_) | skip))) | ((with_reducible refine on_load ?_); (first | refine xl1 M ?_ | refine xlN M ?_); go_big_move) | ((with_reducible refine on_store ?_); (first | refine xs1 M ?_ | refine xsN M ?_); clear M; intro w' M; (try simp only [List.set_cons_zero, List.set_cons_succ] at M)) | ((with_reducible refine on_alloc ?_); refine xa M ?_; clear M; intro g w' M; go_big_move)) | go_values | go_skip | go_guarded | go_step | go_upon))
      go_loop [5] (fun x => ∃ k : Nat, k ≤ s.length ∧ x = fi (k : Int) ∧ Hid (j = k + runLen isDigit (s.drop k))) (fun x => s.length - (intOf x).toNat)
      case atStart => exact ⟨m + 1, by omega, by go_num, HS5⟩
      case round =>
        obtain ⟨k, hk, rfl, hh⟩ := hrel
        clear HL HD
        rcases Nat.lt_or_ge k s.length with hkl | hkl
        · obtain ⟨d, hd⟩ : ∃ d, s[k]? = some d := ⟨_, List.getElem?_eq_getElem hkl⟩
          have q4 : decide ((k : Int) < (s.length : Int)) = true := by simp; omega
          have hwk : IntKind.i64.wrap ((k : Int) + 1) = (k : Int) + 1 := IntWalk.i64_in _ (by omega)
          have hst := runLen_step (p := isDigit) hd
          have HDD := Lib.hid hd
          obtain ⟨b2, hb2⟩ : ∃ b, isDigit d = b := ⟨_, rfl⟩
          have HD : Hid (∀ w', Calls Tryz.prog 40 #[.int .u8 (d.toNat : Int)] w' fun e w'' => e = .returned (.bool b2) ∧ w' = w'') := Lib.hid (fun w' => by rw [← hb2]; exact ref_digit d w')
          rw [hb2] at hst
          cases b2
          · have hkj : k = j := by rw [hh.out, hst]; rfl
            clear hst hd hh hb2
            subst hkj
            (try dsimp only); (repeat (first | (first | ((with_reducible refine on_load ?_); refine xlC (M.far H0.out) ?_; go_big_move) | ((with_reducible refine on_load ?_); refine xlC (M.far H1.out) ?_; go_big_move) | ((with_reducible refine on_indexT ?_); refine wp_indexT _ _ _ rfl Tryz.underlying9 s rfl _ k (by first | rfl | (simp; done)) d HDD.out ?_; (first | ((with_reducible refine fastK Tryz.prog rfl ?_); go_big_move) | (with_reducible refine fastN rfl ?_) | skip)) | (go_at_call 40; (with_reducible refine (HD.out _).mono ?_); rintro _ w1 ⟨rfl, rfl⟩; dsimp only) | ((with_reducible refine on_cutT ?_); refine wp_cutT _ _ _ _ rfl Tryz.underlying9 s rfl _ _ m (k) rfl (by first | rfl | (simp; done) | (simp; omega)) (by omega) (by omega) _ rfl ?_; (first | ((with_reducible refine fastK Tryz.prog rfl ?_); go_big_move) | (with_reducible refine fastN rfl ?_) | skip)) | (go_at_call 41; (with_reducible refine (HNU.out _).mono ?_); rintro _ w1 ⟨rfl, hX⟩; replace M := M.ext hX; clear hX; dsimp only) | ((with_reducible refine wl_g ?_); first | go_big_want | go_skip | ((with_reducible refine wl_off (by kernel_rfl) ?_); (first | ((with_reducible refine fastK Tryz.prog rfl ?_); go_big_move) | (with_reducible refine fastN rfl ?_) | skip))) | ((with_reducible refine on_load ?_); (first | refine xl1 M ?_ | refine xlN M ?_); go_big_move) | ((with_reducible refine on_store ?_); (first | refine xs1 M ?_ | refine xsN M ?_); clear M; intro w' M; (try simp only [List.set_cons_zero, List.set_cons_succ] at M)) | ((with_reducible refine on_alloc ?_); refine xa M ?_; clear M; intro g w' M; go_big_move)) | go_values | go_skip | go_guarded | go_step | go_upon))
            refine ret_m1 rfl (Out.row M rfl pk (fun w => ⟨by first | (simp [go_sem]; done) | (simp [go_sem]; rfl), by first | (simp [go_sem]; done) | (simp [go_sem]; rfl)⟩)) rfl ⟨?_, M.ext_of⟩
            exact tk_eq (by first | rfl | omega) (by first | rfl | (congr 1; omega))
          · have HN : Hid (j = (k + 1) + runLen isDigit (s.drop (k + 1))) := Lib.hid (by rw [hh.out, hst]; simp; omega)
            clear hst hd hh hb2
            (try dsimp only); (repeat (first | (first | ((with_reducible refine on_load ?_); refine xlC (M.far H0.out) ?_; go_big_move) | ((with_reducible refine on_load ?_); refine xlC (M.far H1.out) ?_; go_big_move) | ((with_reducible refine on_indexT ?_); refine wp_indexT _ _ _ rfl Tryz.underlying9 s rfl _ k (by first | rfl | (simp; done)) d HDD.out ?_; (first | ((with_reducible refine fastK Tryz.prog rfl ?_); go_big_move) | (with_reducible refine fastN rfl ?_) | skip)) | (go_at_call 40; (with_reducible refine (HD.out _).mono ?_); rintro _ w1 ⟨rfl, rfl⟩; dsimp only) | ((with_reducible refine wl_g ?_); first | go_big_want | go_skip | ((with_reducible refine wl_off (by kernel_rfl) ?_); (first | ((with_reducible refine fastK Tryz.prog rfl ?_); go_big_move) | (with_reducible refine fastN rfl ?_) | skip))) | ((with_reducible refine on_load ?_); (first | refine xl1 M ?_ | refine xlN M ?_); go_big_move) | ((with_reducible refine on_store ?_); (first | refine xs1 M ?_ | refine xsN M ?_); clear M; intro w' M; (try simp only [List.set_cons_zero, List.set_cons_succ] at M)) | ((with_reducible refine on_alloc ?_); refine xa M ?_; clear M; intro g w' M; go_big_move)) | go_values | go_skip | go_guarded | go_step | go_upon))
            exact ⟨⟨k + 1, by omega, by go_num, HN⟩, by simp [intOf]; omega⟩
        · have hkj : k = j := by rw [hh.out, List.drop_eq_nil_of_le hkl]; rfl
          have q4 : decide ((k : Int) < (s.length : Int)) = false := by simp; omega
          have q4b : ¬ ((k : Int) < (s.length : Int)) := by omega
          clear hh
          subst hkj
          (try dsimp only); (repeat (first | (first | ((with_reducible refine on_load ?_); refine xlC (M.far H0.out) ?_; go_big_move) | ((with_reducible refine on_load ?_); refine xlC (M.far H1.out) ?_; go_big_move) | ((with_reducible refine on_cutT ?_); refine wp_cutT _ _ _ _ rfl Tryz.underlying9 s rfl _ _ m (k) rfl (by first | rfl | (simp; done) | (simp; omega)) (by omega) (by omega) _ rfl ?_; (first | ((with_reducible refine fastK Tryz.prog rfl ?_); go_big_move) | (with_reducible refine fastN rfl ?_) | skip)) | (go_at_call 41; (with_reducible refine (HNU.out _).mono ?_); rintro _ w1 ⟨rfl, hX⟩; replace M := M.ext hX; clear hX; dsimp only) | ((with_reducible refine on_load ?_); (first | refine xl1 M ?_ | refine xlN M ?_); go_big_move) | ((with_reducible refine on_store ?_); (first | refine xs1 M ?_ | refine xsN M ?_); clear M; intro w' M; (try simp only [List.set_cons_zero, List.set_cons_succ] at M)) | ((with_reducible refine on_alloc ?_); refine xa M ?_; clear M; intro g w' M; go_big_move)) | go_values | go_skip | go_guarded | go_step | go_upon))
          refine ret_m1 rfl (Out.row M rfl pk (fun w => ⟨by first | (simp [go_sem]; done) | (simp [go_sem]; rfl), by first | (simp [go_sem]; done) | (simp [go_sem]; rfl)⟩)) rfl ⟨?_, M.ext_of⟩
          exact tk_eq (by first | rfl | omega) (by first | rfl | (congr 1; omega))
end Go.Proofs.YtkblkdnihppmnaaGreatDoor
