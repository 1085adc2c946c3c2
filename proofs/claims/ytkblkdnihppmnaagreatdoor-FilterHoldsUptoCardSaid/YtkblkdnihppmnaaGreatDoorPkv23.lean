/- Parts of this work, one behind the other: Rne. -/
import Derived.Test.YtkblkdnihppmnaaGreatDoorPkv16
/- Filters (layer 21): the document's tokens (walk, e; printed by gen_rn.py). -/
namespace Go.Proofs.YtkblkdnihppmnaaGreatDoor
set_option linter.unusedSimpArgs false
set_option linter.unusedVariables false
open Go.RowKit Res Filt

set_option maxRecDepth 100000 in
set_option maxHeartbeats 800000 in
theorem rnext_open (s : List UInt8) (hs : s.length ≤ 1048576) (gr p : Nat) (hp : p ≤ s.length) (w : World) (h0 : w.cell? ⟨gr, 0, none⟩ = some (str s)) (h1 : w.cell? ⟨gr, 1, none⟩ = some (fi (p : Int))) (i : Nat) (hi : startOf s p = i) (hc : s[i]? = some 40) :
    Calls Tryz.prog 19 #[.pointer (some ⟨gr, 0, none⟩)] w fun e w' => e = .returned (.agg #[fi 4, fi (i : Int), fi ((i + 1 : Nat) : Int), str ((s.drop i).take (i + 1 - i))]) ∧ Ext w w' := by
  have M := Mem.start w
  have H0 := Lib.hid h0
  have H1 := Lib.hid h1
  have HS3 : Hid (i = p + runLen isBlank (s.drop p)) := Lib.hid hi.symm
  clear h0 h1 hi
  go_enter Tryz.func19, Tryz.ntmps19
  (try dsimp only); (repeat (first | (first | ((with_reducible refine on_load ?_); refine xlC (M.far H0.out) ?_; go_big_move) | ((with_reducible refine on_load ?_); refine xlC (M.far H1.out) ?_; go_big_move) | ((with_reducible refine wl_g ?_); first | go_big_want | go_skip | ((with_reducible refine wl_off (by kernel_rfl) ?_); (first | ((with_reducible refine fastK Tryz.prog rfl ?_); go_big_move) | (with_reducible refine fastN rfl ?_) | skip))) | ((with_reducible refine on_load ?_); (first | refine xl1 M ?_ | refine xlN M ?_); go_big_move) | ((with_reducible refine on_store ?_); (first | refine xs1 M ?_ | refine xsN M ?_); clear M; intro w' M; (try simp only [List.set_cons_zero, List.set_cons_succ] at M)) | ((with_reducible refine on_alloc ?_); refine xa M ?_; clear M; intro g w' M; go_big_move)) | go_values | go_skip | go_guarded | go_step | go_upon))
  go_loop [3] (fun x => ∃ m : Nat, m ≤ s.length ∧ x = fi (m : Int) ∧ Hid (i = m + runLen isBlank (s.drop m))) (fun x => s.length - (intOf x).toNat)
  case atStart => exact ⟨p, by omega, by go_num, HS3⟩
  case round =>
    obtain ⟨m, hm, rfl, hh⟩ := hrel
    by_cases hbl : ∃ c, s[m]? = some c ∧ isBlank c = true
    · obtain ⟨c, hcm, hcb⟩ := hbl
      have hml : m < s.length := (List.getElem?_eq_some_iff.1 hcm).1
      have q1 : decide ((m : Int) < (s.length : Int)) = true := by simp; omega
      have hwm : IntKind.i64.wrap ((m : Int) + 1) = (m : Int) + 1 := IntWalk.i64_in _ (by omega)
      have hst := runLen_step (p := isBlank) hcm
      rw [if_pos hcb] at hst
      have HN : Hid (i = (m + 1) + runLen isBlank (s.drop (m + 1))) := Lib.hid (by rw [hh.out, hst]; omega)
      have HCM := Lib.hid hcm
      have q2 : ((c.toNat : Int) == 32) = true := by have := of_decide_eq_true hcb; rw [beq_iff_eq]; omega
      clear hst hcm hcb hh
      (try dsimp only); (repeat (first | (first | ((with_reducible refine on_load ?_); refine xlC (M.far H0.out) ?_; go_big_move) | ((with_reducible refine on_load ?_); refine xlC (M.far H1.out) ?_; go_big_move) | ((with_reducible refine on_indexT ?_); refine wp_indexT _ _ _ rfl Tryz.underlying9 s rfl _ m (by first | rfl | (simp; done)) c HCM.out ?_; (first | ((with_reducible refine fastK Tryz.prog rfl ?_); go_big_move) | (with_reducible refine fastN rfl ?_) | skip)) | ((with_reducible refine wl_g ?_); first | go_big_want | go_skip | ((with_reducible refine wl_off (by kernel_rfl) ?_); (first | ((with_reducible refine fastK Tryz.prog rfl ?_); go_big_move) | (with_reducible refine fastN rfl ?_) | skip))) | ((with_reducible refine on_load ?_); (first | refine xl1 M ?_ | refine xlN M ?_); go_big_move) | ((with_reducible refine on_store ?_); (first | refine xs1 M ?_ | refine xsN M ?_); clear M; intro w' M; (try simp only [List.set_cons_zero, List.set_cons_succ] at M)) | ((with_reducible refine on_alloc ?_); refine xa M ?_; clear M; intro g w' M; go_big_move)) | go_values | go_skip | go_guarded | go_step | go_upon))
      exact ⟨⟨m + 1, by omega, by go_num, HN⟩, by simp [intOf]; omega⟩
    · have hmg : m = i := by
        rw [hh.out]
        rcases Nat.lt_or_ge m s.length with hlt | hge
        · obtain ⟨c, hcm⟩ : ∃ c, s[m]? = some c := ⟨_, List.getElem?_eq_getElem hlt⟩
          rw [runLen_step (p := isBlank) hcm, if_neg (fun e => hbl ⟨c, hcm, e⟩), Nat.add_zero]
        · rw [List.drop_eq_nil_of_le hge]; rfl
      clear hh
      subst hmg
      obtain ⟨hml, q2⟩ : m < s.length ∧ (((40 : UInt8).toNat : Int) == 32) = false := by
        refine ⟨(List.getElem?_eq_some_iff.1 hc).1, ?_⟩
        rw [beq_eq_false_iff_ne]
        intro e
        cases e
      have HC := Lib.hid hc
      have q1 : decide ((m : Int) < (s.length : Int)) = true := by simp; omega
      have q3 : ((m : Int) == (s.length : Int)) = false := by rw [beq_eq_false_iff_ne]; omega
      have hw1 : IntKind.i64.wrap ((m : Int) + 1) = (m : Int) + 1 := IntWalk.i64_in _ (by omega)
      clear hc
      clear hbl
      have HL : Hid (∀ w', Calls Tryz.prog 39 #[.int .u8 40] w' fun e w'' => e = .returned (.bool false) ∧ w' = w'') := Lib.hid (fun w' => ref_letter 40 w')
      have HL2 : Hid (∀ w', Calls Tryz.prog 39 #[.int .u8 ((40 : UInt8).toNat : Int)] w' fun e w'' => e = .returned (.bool false) ∧ w' = w'') := Lib.hid (fun w' => ref_letter 40 w')
      have HD : Hid (∀ w', Calls Tryz.prog 40 #[.int .u8 40] w' fun e w'' => e = .returned (.bool false) ∧ w' = w'') := Lib.hid (fun w' => ref_digit 40 w')
      have HD2 : Hid (∀ w', Calls Tryz.prog 40 #[.int .u8 ((40 : UInt8).toNat : Int)] w' fun e w'' => e = .returned (.bool false) ∧ w' = w'') := Lib.hid (fun w' => ref_digit 40 w')
      (try dsimp only); (repeat (first | (first | ((with_reducible refine on_load ?_); refine xlC (M.far H0.out) ?_; go_big_move) | ((with_reducible refine on_load ?_); refine xlC (M.far H1.out) ?_; go_big_move) | ((with_reducible refine on_indexT ?_); refine wp_indexT _ _ _ rfl Tryz.underlying9 s rfl _ m (by first | rfl | (simp; done)) 40 HC.out ?_; (first | ((with_reducible refine fastK Tryz.prog rfl ?_); go_big_move) | (with_reducible refine fastN rfl ?_) | skip)) | (first | (go_at_call 39; (with_reducible refine (HL.out _).mono ?_); rintro _ w1 ⟨rfl, rfl⟩; dsimp only) | (go_at_call 39; (with_reducible refine (HL2.out _).mono ?_); rintro _ w1 ⟨rfl, rfl⟩; dsimp only)) | (first | (go_at_call 40; (with_reducible refine (HD.out _).mono ?_); rintro _ w1 ⟨rfl, rfl⟩; dsimp only) | (go_at_call 40; (with_reducible refine (HD2.out _).mono ?_); rintro _ w1 ⟨rfl, rfl⟩; dsimp only)) | ((with_reducible refine on_cutT ?_); refine wp_cutT _ _ _ _ rfl Tryz.underlying9 s rfl _ _ m (m + 1) rfl (by first | rfl | (simp; done) | (simp; omega)) (by omega) (by omega) _ rfl ?_; (first | ((with_reducible refine fastK Tryz.prog rfl ?_); go_big_move) | (with_reducible refine fastN rfl ?_) | skip)) | ((with_reducible refine wl_g ?_); first | go_big_want | go_skip | ((with_reducible refine wl_off (by kernel_rfl) ?_); (first | ((with_reducible refine fastK Tryz.prog rfl ?_); go_big_move) | (with_reducible refine fastN rfl ?_) | skip))) | ((with_reducible refine on_load ?_); (first | refine xl1 M ?_ | refine xlN M ?_); go_big_move) | ((with_reducible refine on_store ?_); (first | refine xs1 M ?_ | refine xsN M ?_); clear M; intro w' M; (try simp only [List.set_cons_zero, List.set_cons_succ] at M)) | ((with_reducible refine on_alloc ?_); refine xa M ?_; clear M; intro g w' M; go_big_move)) | go_values | go_skip | go_guarded | go_step | go_upon))
      refine ret_m1 rfl (Out.row M rfl pk (fun w => ⟨by first | (simp [go_sem]; done) | (simp [go_sem]; rfl), by first | (simp [go_sem]; done) | (simp [go_sem]; rfl)⟩)) rfl ⟨?_, M.ext_of⟩
      exact tk_eq (by first | rfl | omega) (by first | rfl | (congr 1; omega))
set_option maxRecDepth 100000 in
set_option maxHeartbeats 800000 in
theorem rnext_close (s : List UInt8) (hs : s.length ≤ 1048576) (gr p : Nat) (hp : p ≤ s.length) (w : World) (h0 : w.cell? ⟨gr, 0, none⟩ = some (str s)) (h1 : w.cell? ⟨gr, 1, none⟩ = some (fi (p : Int))) (i : Nat) (hi : startOf s p = i) (hc : s[i]? = some 41) :
    Calls Tryz.prog 19 #[.pointer (some ⟨gr, 0, none⟩)] w fun e w' => e = .returned (.agg #[fi 4, fi (i : Int), fi ((i + 1 : Nat) : Int), str ((s.drop i).take (i + 1 - i))]) ∧ Ext w w' := by
  have M := Mem.start w
  have H0 := Lib.hid h0
  have H1 := Lib.hid h1
  have HS3 : Hid (i = p + runLen isBlank (s.drop p)) := Lib.hid hi.symm
  clear h0 h1 hi
  go_enter Tryz.func19, Tryz.ntmps19
  (try dsimp only); (repeat (first | (first | ((with_reducible refine on_load ?_); refine xlC (M.far H0.out) ?_; go_big_move) | ((with_reducible refine on_load ?_); refine xlC (M.far H1.out) ?_; go_big_move) | ((with_reducible refine wl_g ?_); first | go_big_want | go_skip | ((with_reducible refine wl_off (by kernel_rfl) ?_); (first | ((with_reducible refine fastK Tryz.prog rfl ?_); go_big_move) | (with_reducible refine fastN rfl ?_) | skip))) | ((with_reducible refine on_load ?_); (first | refine xl1 M ?_ | refine xlN M ?_); go_big_move) | ((with_reducible refine on_store ?_); (first | refine xs1 M ?_ | refine xsN M ?_); clear M; intro w' M; (try simp only [List.set_cons_zero, List.set_cons_succ] at M)) | ((with_reducible refine on_alloc ?_); refine xa M ?_; clear M; intro g w' M; go_big_move)) | go_values | go_skip | go_guarded | go_step | go_upon))
  go_loop [3] (fun x => ∃ m : Nat, m ≤ s.length ∧ x = fi (m : Int) ∧ Hid (i = m + runLen isBlank (s.drop m))) (fun x => s.length - (intOf x).toNat)
  case atStart => exact ⟨p, by omega, by go_num, HS3⟩
  case round =>
    obtain ⟨m, hm, rfl, hh⟩ := hrel
    by_cases hbl : ∃ c, s[m]? = some c ∧ isBlank c = true
    · obtain ⟨c, hcm, hcb⟩ := hbl
      have hml : m < s.length := (List.getElem?_eq_some_iff.1 hcm).1
      have q1 : decide ((m : Int) < (s.length : Int)) = true := by simp; omega
      have hwm : IntKind.i64.wrap ((m : Int) + 1) = (m : Int) + 1 := IntWalk.i64_in _ (by omega)
      have hst := runLen_step (p := isBlank) hcm
      rw [if_pos hcb] at hst
      have HN : Hid (i = (m + 1) + runLen isBlank (s.drop (m + 1))) := Lib.hid (by rw [hh.out, hst]; omega)
      have HCM := Lib.hid hcm
      have q2 : ((c.toNat : Int) == 32) = true := by have := of_decide_eq_true hcb; rw [beq_iff_eq]; omega
      clear hst hcm hcb hh
      (try dsimp only); (repeat (first | (first | ((with_reducible refine on_load ?_); refine xlC (M.far H0.out) ?_; go_big_move) | ((with_reducible refine on_load ?_); refine xlC (M.far H1.out) ?_; go_big_move) | ((with_reducible refine on_indexT ?_); refine wp_indexT _ _ _ rfl Tryz.underlying9 s rfl _ m (by first | rfl | (simp; done)) c HCM.out ?_; (first | ((with_reducible refine fastK Tryz.prog rfl ?_); go_big_move) | (with_reducible refine fastN rfl ?_) | skip)) | ((with_reducible refine wl_g ?_); first | go_big_want | go_skip | ((with_reducible refine wl_off (by kernel_rfl) ?_); (first | ((with_reducible refine fastK Tryz.prog rfl ?_); go_big_move) | (with_reducible refine fastN rfl ?_) | skip))) | ((with_reducible refine on_load ?_); (first | refine xl1 M ?_ | refine xlN M ?_); go_big_move) | ((with_reducible refine on_store ?_); (first | refine xs1 M ?_ | refine xsN M ?_); clear M; intro w' M; (try simp only [List.set_cons_zero, List.set_cons_succ] at M)) | ((with_reducible refine on_alloc ?_); refine xa M ?_; clear M; intro g w' M; go_big_move)) | go_values | go_skip | go_guarded | go_step | go_upon))
      exact ⟨⟨m + 1, by omega, by go_num, HN⟩, by simp [intOf]; omega⟩
    · have hmg : m = i := by
        rw [hh.out]
        rcases Nat.lt_or_ge m s.length with hlt | hge
        · obtain ⟨c, hcm⟩ : ∃ c, s[m]? = some c := ⟨_, List.getElem?_eq_getElem hlt⟩
          rw [runLen_step (p := isBlank) hcm, if_neg (fun e => hbl ⟨c, hcm, e⟩), Nat.add_zero]
        · rw [List.drop_eq_nil_of_le hge]; rfl
      clear hh
      subst hmg
      obtain ⟨hml, q2⟩ : m < s.length ∧ (((41 : UInt8).toNat : Int) == 32) = false := by
        refine ⟨(List.getElem?_eq_some_iff.1 hc).1, ?_⟩
        rw [beq_eq_false_iff_ne]
        intro e
        cases e
      have HC := Lib.hid hc
      have q1 : decide ((m : Int) < (s.length : Int)) = true := by simp; omega
      have q3 : ((m : Int) == (s.length : Int)) = false := by rw [beq_eq_false_iff_ne]; omega
      have hw1 : IntKind.i64.wrap ((m : Int) + 1) = (m : Int) + 1 := IntWalk.i64_in _ (by omega)
      clear hc
      clear hbl
      have HL : Hid (∀ w', Calls Tryz.prog 39 #[.int .u8 41] w' fun e w'' => e = .returned (.bool false) ∧ w' = w'') := Lib.hid (fun w' => ref_letter 41 w')
      have HL2 : Hid (∀ w', Calls Tryz.prog 39 #[.int .u8 ((41 : UInt8).toNat : Int)] w' fun e w'' => e = .returned (.bool false) ∧ w' = w'') := Lib.hid (fun w' => ref_letter 41 w')
      have HD : Hid (∀ w', Calls Tryz.prog 40 #[.int .u8 41] w' fun e w'' => e = .returned (.bool false) ∧ w' = w'') := Lib.hid (fun w' => ref_digit 41 w')
      have HD2 : Hid (∀ w', Calls Tryz.prog 40 #[.int .u8 ((41 : UInt8).toNat : Int)] w' fun e w'' => e = .returned (.bool false) ∧ w' = w'') := Lib.hid (fun w' => ref_digit 41 w')
      (try dsimp only); (repeat (first | (first | ((with_reducible refine on_load ?_); refine xlC (M.far H0.out) ?_; go_big_move) | ((with_reducible refine on_load ?_); refine xlC (M.far H1.out) ?_; go_big_move) | ((with_reducible refine on_indexT ?_); refine wp_indexT _ _ _ rfl Tryz.underlying9 s rfl _ m (by first | rfl | (simp; done)) 41 HC.out ?_; (first | ((with_reducible refine fastK Tryz.prog rfl ?_); go_big_move) | (with_reducible refine fastN rfl ?_) | skip)) | (first | (go_at_call 39; (with_reducible refine (HL.out _).mono ?_); rintro _ w1 ⟨rfl, rfl⟩; dsimp only) | (go_at_call 39; (with_reducible refine (HL2.out _).mono ?_); rintro _ w1 ⟨rfl, rfl⟩; dsimp only)) | (first | (go_at_call 40; (with_reducible refine (HD.out _).mono ?_); rintro _ w1 ⟨rfl, rfl⟩; dsimp only) | (go_at_call 40; (with_reducible refine (HD2.out _).mono ?_); rintro _ w1 ⟨rfl, rfl⟩; dsimp only)) | ((with_reducible refine on_cutT ?_); refine wp_cutT _ _ _ _ rfl Tryz.underlying9 s rfl _ _ m (m + 1) rfl (by first | rfl | (simp; done) | (simp; omega)) (by omega) (by omega) _ rfl ?_; (first | ((with_reducible refine fastK Tryz.prog rfl ?_); go_big_move) | (with_reducible refine fastN rfl ?_) | skip)) | ((with_reducible refine wl_g ?_); first | go_big_want | go_skip | ((with_reducible refine wl_off (by kernel_rfl) ?_); (first | ((with_reducible refine fastK Tryz.prog rfl ?_); go_big_move) | (with_reducible refine fastN rfl ?_) | skip))) | ((with_reducible refine on_load ?_); (first | refine xl1 M ?_ | refine xlN M ?_); go_big_move) | ((with_reducible refine on_store ?_); (first | refine xs1 M ?_ | refine xsN M ?_); clear M; intro w' M; (try simp only [List.set_cons_zero, List.set_cons_succ] at M)) | ((with_reducible refine on_alloc ?_); refine xa M ?_; clear M; intro g w' M; go_big_move)) | go_values | go_skip | go_guarded | go_step | go_upon))
      refine ret_m1 rfl (Out.row M rfl pk (fun w => ⟨by first | (simp [go_sem]; done) | (simp [go_sem]; rfl), by first | (simp [go_sem]; done) | (simp [go_sem]; rfl)⟩)) rfl ⟨?_, M.ext_of⟩
      exact tk_eq (by first | rfl | omega) (by first | rfl | (congr 1; omega))
set_option maxRecDepth 100000 in
set_option maxHeartbeats 800000 in
theorem rnext_eq (s : List UInt8) (hs : s.length ≤ 1048576) (gr p : Nat) (hp : p ≤ s.length) (w : World) (h0 : w.cell? ⟨gr, 0, none⟩ = some (str s)) (h1 : w.cell? ⟨gr, 1, none⟩ = some (fi (p : Int))) (i : Nat) (hi : startOf s p = i) (hc : s[i]? = some 61) :
    Calls Tryz.prog 19 #[.pointer (some ⟨gr, 0, none⟩)] w fun e w' => e = .returned (.agg #[fi 4, fi (i : Int), fi ((i + 1 : Nat) : Int), str ((s.drop i).take (i + 1 - i))]) ∧ Ext w w' := by
  have M := Mem.start w
  have H0 := Lib.hid h0
  have H1 := Lib.hid h1
  have HS3 : Hid (i = p + runLen isBlank (s.drop p)) := Lib.hid hi.symm
  clear h0 h1 hi
  go_enter Tryz.func19, Tryz.ntmps19
  (try dsimp only); (repeat (first | (first | ((with_reducible refine on_load ?_); refine xlC (M.far H0.out) ?_; go_big_move) | ((with_reducible refine on_load ?_); refine xlC (M.far H1.out) ?_; go_big_move) | ((with_reducible refine wl_g ?_); first | go_big_want | go_skip | ((with_reducible refine wl_off (by kernel_rfl) ?_); (first | ((with_reducible refine fastK Tryz.prog rfl ?_); go_big_move) | (with_reducible refine fastN rfl ?_) | skip))) | ((with_reducible refine on_load ?_); (first | refine xl1 M ?_ | refine xlN M ?_); go_big_move) | ((with_reducible refine on_store ?_); (first | refine xs1 M ?_ | refine xsN M ?_); clear M; intro w' M; (try simp only [List.set_cons_zero, List.set_cons_succ] at M)) | ((with_reducible refine on_alloc ?_); refine xa M ?_; clear M; intro g w' M; go_big_move)) | go_values | go_skip | go_guarded | go_step | go_upon))
  go_loop [3] (fun x => ∃ m : Nat, m ≤ s.length ∧ x = fi (m : Int) ∧ Hid (i = m + runLen isBlank (s.drop m))) (fun x => s.length - (intOf x).toNat)
  case atStart => exact ⟨p, by omega, by go_num, HS3⟩
  case round =>
    obtain ⟨m, hm, rfl, hh⟩ := hrel
    by_cases hbl : ∃ c, s[m]? = some c ∧ isBlank c = true
    · obtain ⟨c, hcm, hcb⟩ := hbl
      have hml : m < s.length := (List.getElem?_eq_some_iff.1 hcm).1
      have q1 : decide ((m : Int) < (s.length : Int)) = true := by simp; omega
      have hwm : IntKind.i64.wrap ((m : Int) + 1) = (m : Int) + 1 := IntWalk.i64_in _ (by omega)
      have hst := runLen_step (p := isBlank) hcm
      rw [if_pos hcb] at hst
      have HN : Hid (i = (m + 1) + runLen isBlank (s.drop (m + 1))) := Lib.hid (by rw [hh.out, hst]; omega)
      have HCM := Lib.hid hcm
      have q2 : ((c.toNat : Int) == 32) = true := by have := of_decide_eq_true hcb; rw [beq_iff_eq]; omega
      clear hst hcm hcb hh
      (try dsimp only); (repeat (first | (first | ((with_reducible refine on_load ?_); refine xlC (M.far H0.out) ?_; go_big_move) | ((with_reducible refine on_load ?_); refine xlC (M.far H1.out) ?_; go_big_move) | ((with_reducible refine on_indexT ?_); refine wp_indexT _ _ _ rfl Tryz.underlying9 s rfl _ m (by first | rfl | (simp; done)) c HCM.out ?_; (first | ((with_reducible refine fastK Tryz.prog rfl ?_); go_big_move) | (with_reducible refine fastN rfl ?_) | skip)) | ((with_reducible refine wl_g ?_); first | go_big_want | go_skip | ((with_reducible refine wl_off (by kernel_rfl) ?_); (first | ((with_reducible refine fastK Tryz.prog rfl ?_); go_big_move) | (with_reducible refine fastN rfl ?_) | skip))) | ((with_reducible refine on_load ?_); (first | refine xl1 M ?_ | refine xlN M ?_); go_big_move) | ((with_reducible refine on_store ?_); (first | refine xs1 M ?_ | refine xsN M ?_); clear M; intro w' M; (try simp only [List.set_cons_zero, List.set_cons_succ] at M)) | ((with_reducible refine on_alloc ?_); refine xa M ?_; clear M; intro g w' M; go_big_move)) | go_values | go_skip | go_guarded | go_step | go_upon))
      exact ⟨⟨m + 1, by omega, by go_num, HN⟩, by simp [intOf]; omega⟩
    · have hmg : m = i := by
        rw [hh.out]
        rcases Nat.lt_or_ge m s.length with hlt | hge
        · obtain ⟨c, hcm⟩ : ∃ c, s[m]? = some c := ⟨_, List.getElem?_eq_getElem hlt⟩
          rw [runLen_step (p := isBlank) hcm, if_neg (fun e => hbl ⟨c, hcm, e⟩), Nat.add_zero]
        · rw [List.drop_eq_nil_of_le hge]; rfl
      clear hh
      subst hmg
      obtain ⟨hml, q2⟩ : m < s.length ∧ (((61 : UInt8).toNat : Int) == 32) = false := by
        refine ⟨(List.getElem?_eq_some_iff.1 hc).1, ?_⟩
        rw [beq_eq_false_iff_ne]
        intro e
        cases e
      have HC := Lib.hid hc
      have q1 : decide ((m : Int) < (s.length : Int)) = true := by simp; omega
      have q3 : ((m : Int) == (s.length : Int)) = false := by rw [beq_eq_false_iff_ne]; omega
      have hw1 : IntKind.i64.wrap ((m : Int) + 1) = (m : Int) + 1 := IntWalk.i64_in _ (by omega)
      clear hc
      clear hbl
      have HL : Hid (∀ w', Calls Tryz.prog 39 #[.int .u8 61] w' fun e w'' => e = .returned (.bool false) ∧ w' = w'') := Lib.hid (fun w' => ref_letter 61 w')
      have HL2 : Hid (∀ w', Calls Tryz.prog 39 #[.int .u8 ((61 : UInt8).toNat : Int)] w' fun e w'' => e = .returned (.bool false) ∧ w' = w'') := Lib.hid (fun w' => ref_letter 61 w')
      have HD : Hid (∀ w', Calls Tryz.prog 40 #[.int .u8 61] w' fun e w'' => e = .returned (.bool false) ∧ w' = w'') := Lib.hid (fun w' => ref_digit 61 w')
      have HD2 : Hid (∀ w', Calls Tryz.prog 40 #[.int .u8 ((61 : UInt8).toNat : Int)] w' fun e w'' => e = .returned (.bool false) ∧ w' = w'') := Lib.hid (fun w' => ref_digit 61 w')
      (try dsimp only); (repeat (first | (first | ((with_reducible refine on_load ?_); refine xlC (M.far H0.out) ?_; go_big_move) | ((with_reducible refine on_load ?_); refine xlC (M.far H1.out) ?_; go_big_move) | ((with_reducible refine on_indexT ?_); refine wp_indexT _ _ _ rfl Tryz.underlying9 s rfl _ m (by first | rfl | (simp; done)) 61 HC.out ?_; (first | ((with_reducible refine fastK Tryz.prog rfl ?_); go_big_move) | (with_reducible refine fastN rfl ?_) | skip)) | (first | (go_at_call 39; (with_reducible refine (HL.out _).mono ?_); rintro _ w1 ⟨rfl, rfl⟩; dsimp only) | (go_at_call 39; (with_reducible refine (HL2.out _).mono ?_); rintro _ w1 ⟨rfl, rfl⟩; dsimp only)) | (first | (go_at_call 40; (with_reducible refine (HD.out _).mono ?_); rintro _ w1 ⟨rfl, rfl⟩; dsimp only) | (go_at_call 40; (with_reducible refine (HD2.out _).mono ?_); rintro _ w1 ⟨rfl, rfl⟩; dsimp only)) | ((with_reducible refine on_cutT ?_); refine wp_cutT _ _ _ _ rfl Tryz.underlying9 s rfl _ _ m (m + 1) rfl (by first | rfl | (simp; done) | (simp; omega)) (by omega) (by omega) _ rfl ?_; (first | ((with_reducible refine fastK Tryz.prog rfl ?_); go_big_move) | (with_reducible refine fastN rfl ?_) | skip)) | ((with_reducible refine wl_g ?_); first | go_big_want | go_skip | ((with_reducible refine wl_off (by kernel_rfl) ?_); (first | ((with_reducible refine fastK Tryz.prog rfl ?_); go_big_move) | (with_reducible refine fastN rfl ?_) | skip))) | ((with_reducible refine on_load ?_); (first | refine xl1 M ?_ | refine xlN M ?_); go_big_move) | ((with_reducible refine on_store ?_); (first | refine xs1 M ?_ | refine xsN M ?_); clear M; intro w' M; (try simp only [List.set_cons_zero, List.set_cons_succ] at M)) | ((with_reducible refine on_alloc ?_); refine xa M ?_; clear M; intro g w' M; go_big_move)) | go_values | go_skip | go_guarded | go_step | go_upon))
      refine ret_m1 rfl (Out.row M rfl pk (fun w => ⟨by first | (simp [go_sem]; done) | (simp [go_sem]; rfl), by first | (simp [go_sem]; done) | (simp [go_sem]; rfl)⟩)) rfl ⟨?_, M.ext_of⟩
      exact tk_eq (by first | rfl | omega) (by first | rfl | (congr 1; omega))
set_option maxRecDepth 100000 in
set_option maxHeartbeats 800000 in
theorem rnext_no_eq (s : List UInt8) (hs : s.length ≤ 1048576) (gr p : Nat) (hp : p ≤ s.length) (w : World) (h0 : w.cell? ⟨gr, 0, none⟩ = some (str s)) (h1 : w.cell? ⟨gr, 1, none⟩ = some (fi (p : Int))) (i : Nat) (hi : startOf s p = i) (hc : s[i]? = some 33) (hc2 : s[i + 1]? = some 61) :
    Calls Tryz.prog 19 #[.pointer (some ⟨gr, 0, none⟩)] w fun e w' => e = .returned (.agg #[fi 4, fi (i : Int), fi ((i + 1 + 1 : Nat) : Int), str ((s.drop i).take (i + 1 + 1 - i))]) ∧ Ext w w' := by
  have M := Mem.start w
  have H0 := Lib.hid h0
  have H1 := Lib.hid h1
  have HS3 : Hid (i = p + runLen isBlank (s.drop p)) := Lib.hid hi.symm
  clear h0 h1 hi
  go_enter Tryz.func19, Tryz.ntmps19
  (try dsimp only); (repeat (first | (first | ((with_reducible refine on_load ?_); refine xlC (M.far H0.out) ?_; go_big_move) | ((with_reducible refine on_load ?_); refine xlC (M.far H1.out) ?_; go_big_move) | ((with_reducible refine wl_g ?_); first | go_big_want | go_skip | ((with_reducible refine wl_off (by kernel_rfl) ?_); (first | ((with_reducible refine fastK Tryz.prog rfl ?_); go_big_move) | (with_reducible refine fastN rfl ?_) | skip))) | ((with_reducible refine on_load ?_); (first | refine xl1 M ?_ | refine xlN M ?_); go_big_move) | ((with_reducible refine on_store ?_); (first | refine xs1 M ?_ | refine xsN M ?_); clear M; intro w' M; (try simp only [List.set_cons_zero, List.set_cons_succ] at M)) | ((with_reducible refine on_alloc ?_); refine xa M ?_; clear M; intro g w' M; go_big_move)) | go_values | go_skip | go_guarded | go_step | go_upon))
  go_loop [3] (fun x => ∃ m : Nat, m ≤ s.length ∧ x = fi (m : Int) ∧ Hid (i = m + runLen isBlank (s.drop m))) (fun x => s.length - (intOf x).toNat)
  case atStart => exact ⟨p, by omega, by go_num, HS3⟩
  case round =>
    obtain ⟨m, hm, rfl, hh⟩ := hrel
    by_cases hbl : ∃ c, s[m]? = some c ∧ isBlank c = true
    · obtain ⟨c, hcm, hcb⟩ := hbl
      have hml : m < s.length := (List.getElem?_eq_some_iff.1 hcm).1
      have q1 : decide ((m : Int) < (s.length : Int)) = true := by simp; omega
      have hwm : IntKind.i64.wrap ((m : Int) + 1) = (m : Int) + 1 := IntWalk.i64_in _ (by omega)
      have hst := runLen_step (p := isBlank) hcm
      rw [if_pos hcb] at hst
      have HN : Hid (i = (m + 1) + runLen isBlank (s.drop (m + 1))) := Lib.hid (by rw [hh.out, hst]; omega)
      have HCM := Lib.hid hcm
      have q2 : ((c.toNat : Int) == 32) = true := by have := of_decide_eq_true hcb; rw [beq_iff_eq]; omega
      clear hst hcm hcb hh
      (try dsimp only); (repeat (first | (first | ((with_reducible refine on_load ?_); refine xlC (M.far H0.out) ?_; go_big_move) | ((with_reducible refine on_load ?_); refine xlC (M.far H1.out) ?_; go_big_move) | ((with_reducible refine on_indexT ?_); refine wp_indexT _ _ _ rfl Tryz.underlying9 s rfl _ m (by first | rfl | (simp; done)) c HCM.out ?_; (first | ((with_reducible refine fastK Tryz.prog rfl ?_); go_big_move) | (with_reducible refine fastN rfl ?_) | skip)) | ((with_reducible refine wl_g ?_); first | go_big_want | go_skip | ((with_reducible refine wl_off (by kernel_rfl) ?_); (first | ((with_reducible refine fastK Tryz.prog rfl ?_); go_big_move) | (with_reducible refine fastN rfl ?_) | skip))) | ((with_reducible refine on_load ?_); (first | refine xl1 M ?_ | refine xlN M ?_); go_big_move) | ((with_reducible refine on_store ?_); (first | refine xs1 M ?_ | refine xsN M ?_); clear M; intro w' M; (try simp only [List.set_cons_zero, List.set_cons_succ] at M)) | ((with_reducible refine on_alloc ?_); refine xa M ?_; clear M; intro g w' M; go_big_move)) | go_values | go_skip | go_guarded | go_step | go_upon))
      exact ⟨⟨m + 1, by omega, by go_num, HN⟩, by simp [intOf]; omega⟩
    · have hmg : m = i := by
        rw [hh.out]
        rcases Nat.lt_or_ge m s.length with hlt | hge
        · obtain ⟨c, hcm⟩ : ∃ c, s[m]? = some c := ⟨_, List.getElem?_eq_getElem hlt⟩
          rw [runLen_step (p := isBlank) hcm, if_neg (fun e => hbl ⟨c, hcm, e⟩), Nat.add_zero]
        · rw [List.drop_eq_nil_of_le hge]; rfl
      clear hh
      subst hmg
      obtain ⟨hml, q2⟩ : m < s.length ∧ (((33 : UInt8).toNat : Int) == 32) = false := by
        refine ⟨(List.getElem?_eq_some_iff.1 hc).1, ?_⟩
        rw [beq_eq_false_iff_ne]
        intro e
        cases e
      have HC := Lib.hid hc
      have q1 : decide ((m : Int) < (s.length : Int)) = true := by simp; omega
      have q3 : ((m : Int) == (s.length : Int)) = false := by rw [beq_eq_false_iff_ne]; omega
      have hw1 : IntKind.i64.wrap ((m : Int) + 1) = (m : Int) + 1 := IntWalk.i64_in _ (by omega)
      clear hc
      clear hbl
      have HL : Hid (∀ w', Calls Tryz.prog 39 #[.int .u8 33] w' fun e w'' => e = .returned (.bool false) ∧ w' = w'') := Lib.hid (fun w' => ref_letter 33 w')
      have HL2 : Hid (∀ w', Calls Tryz.prog 39 #[.int .u8 ((33 : UInt8).toNat : Int)] w' fun e w'' => e = .returned (.bool false) ∧ w' = w'') := Lib.hid (fun w' => ref_letter 33 w')
      have HD : Hid (∀ w', Calls Tryz.prog 40 #[.int .u8 33] w' fun e w'' => e = .returned (.bool false) ∧ w' = w'') := Lib.hid (fun w' => ref_digit 33 w')
      have HD2 : Hid (∀ w', Calls Tryz.prog 40 #[.int .u8 ((33 : UInt8).toNat : Int)] w' fun e w'' => e = .returned (.bool false) ∧ w' = w'') := Lib.hid (fun w' => ref_digit 33 w')
      have hl2 : m + 1 < s.length := (List.getElem?_eq_some_iff.1 hc2).1
      have g3 : decide ((m : Int) + 1 < (s.length : Int)) = true := by simp; omega
      have hw2 : IntKind.i64.wrap ((m : Int) + 1 + 1) = (m : Int) + 1 + 1 := IntWalk.i64_in _ (by omega)
      have HC2 := Lib.hid hc2
      clear hc2
      (try dsimp only); (repeat (first | (first | ((with_reducible refine on_load ?_); refine xlC (M.far H0.out) ?_; go_big_move) | ((with_reducible refine on_load ?_); refine xlC (M.far H1.out) ?_; go_big_move) | ((with_reducible refine on_indexT ?_); refine wp_indexT _ _ _ rfl Tryz.underlying9 s rfl _ m (by first | rfl | (simp; done)) 33 HC.out ?_; (first | ((with_reducible refine fastK Tryz.prog rfl ?_); go_big_move) | (with_reducible refine fastN rfl ?_) | skip)) | (first | (go_at_call 39; (with_reducible refine (HL.out _).mono ?_); rintro _ w1 ⟨rfl, rfl⟩; dsimp only) | (go_at_call 39; (with_reducible refine (HL2.out _).mono ?_); rintro _ w1 ⟨rfl, rfl⟩; dsimp only)) | (first | (go_at_call 40; (with_reducible refine (HD.out _).mono ?_); rintro _ w1 ⟨rfl, rfl⟩; dsimp only) | (go_at_call 40; (with_reducible refine (HD2.out _).mono ?_); rintro _ w1 ⟨rfl, rfl⟩; dsimp only)) | ((with_reducible refine on_indexT ?_); refine wp_indexT _ _ _ rfl Tryz.underlying9 s rfl _ (m + 1) (by first | rfl | (simp; done)) 61 HC2.out ?_; (first | ((with_reducible refine fastK Tryz.prog rfl ?_); go_big_move) | (with_reducible refine fastN rfl ?_) | skip)) | ((with_reducible refine on_cutT ?_); refine wp_cutT _ _ _ _ rfl Tryz.underlying9 s rfl _ _ m (m + 1 + 1) rfl (by first | rfl | (simp; done) | (simp; omega)) (by omega) (by omega) _ rfl ?_; (first | ((with_reducible refine fastK Tryz.prog rfl ?_); go_big_move) | (with_reducible refine fastN rfl ?_) | skip)) | ((with_reducible refine wl_g ?_); first | go_big_want | go_skip | ((with_reducible refine wl_off (by kernel_rfl) ?_); (first | ((with_reducible refine fastK Tryz.prog rfl ?_); go_big_move) | (with_reducible refine fastN rfl ?_) | skip))) | ((with_reducible refine on_load ?_); (first | refine xl1 M ?_ | refine xlN M ?_); go_big_move) | ((with_reducible refine on_store ?_); (first | refine xs1 M ?_ | refine xsN M ?_); clear M; intro w' M; (try simp only [List.set_cons_zero, List.set_cons_succ] at M)) | ((with_reducible refine on_alloc ?_); refine xa M ?_; clear M; intro g w' M; go_big_move)) | go_values | go_skip | go_guarded | go_step | go_upon))
      refine ret_m1 rfl (Out.row M rfl pk (fun w => ⟨by first | (simp [go_sem]; done) | (simp [go_sem]; rfl), by first | (simp [go_sem]; done) | (simp [go_sem]; rfl)⟩)) rfl ⟨?_, M.ext_of⟩
      exact tk_eq (by first | rfl | omega) (by first | rfl | (congr 1; omega))
set_option maxRecDepth 100000 in
set_option maxHeartbeats 800000 in
theorem rnext_no_end (s : List UInt8) (hs : s.length ≤ 1048576) (gr p : Nat) (hp : p ≤ s.length) (w : World) (h0 : w.cell? ⟨gr, 0, none⟩ = some (str s)) (h1 : w.cell? ⟨gr, 1, none⟩ = some (fi (p : Int))) (i : Nat) (hi : startOf s p = i) (hc : s[i]? = some 33) (hend : s.length ≤ i + 1) :
    Calls Tryz.prog 19 #[.pointer (some ⟨gr, 0, none⟩)] w fun e w' => e = .returned (.agg #[fi 5, fi (i : Int), fi ((i + 1 : Nat) : Int), str ((s.drop i).take (i + 1 - i))]) ∧ Ext w w' := by
  have M := Mem.start w
  have H0 := Lib.hid h0
  have H1 := Lib.hid h1
  have HS3 : Hid (i = p + runLen isBlank (s.drop p)) := Lib.hid hi.symm
  clear h0 h1 hi
  go_enter Tryz.func19, Tryz.ntmps19
  (try dsimp only); (repeat (first | (first | ((with_reducible refine on_load ?_); refine xlC (M.far H0.out) ?_; go_big_move) | ((with_reducible refine on_load ?_); refine xlC (M.far H1.out) ?_; go_big_move) | ((with_reducible refine wl_g ?_); first | go_big_want | go_skip | ((with_reducible refine wl_off (by kernel_rfl) ?_); (first | ((with_reducible refine fastK Tryz.prog rfl ?_); go_big_move) | (with_reducible refine fastN rfl ?_) | skip))) | ((with_reducible refine on_load ?_); (first | refine xl1 M ?_ | refine xlN M ?_); go_big_move) | ((with_reducible refine on_store ?_); (first | refine xs1 M ?_ | refine xsN M ?_); clear M; intro w' M; (try simp only [List.set_cons_zero, List.set_cons_succ] at M)) | ((with_reducible refine on_alloc ?_); refine xa M ?_; clear M; intro g w' M; go_big_move)) | go_values | go_skip | go_guarded | go_step | go_upon))
  go_loop [3] (fun x => ∃ m : Nat, m ≤ s.length ∧ x = fi (m : Int) ∧ Hid (i = m + runLen isBlank (s.drop m))) (fun x => s.length - (intOf x).toNat)
  case atStart => exact ⟨p, by omega, by go_num, HS3⟩
  case round =>
    obtain ⟨m, hm, rfl, hh⟩ := hrel
    by_cases hbl : ∃ c, s[m]? = some c ∧ isBlank c = true
    · obtain ⟨c, hcm, hcb⟩ := hbl
      have hml : m < s.length := (List.getElem?_eq_some_iff.1 hcm).1
      have q1 : decide ((m : Int) < (s.length : Int)) = true := by simp; omega
      have hwm : IntKind.i64.wrap ((m : Int) + 1) = (m : Int) + 1 := IntWalk.i64_in _ (by omega)
      have hst := runLen_step (p := isBlank) hcm
      rw [if_pos hcb] at hst
      have HN : Hid (i = (m + 1) + runLen isBlank (s.drop (m + 1))) := Lib.hid (by rw [hh.out, hst]; omega)
      have HCM := Lib.hid hcm
      have q2 : ((c.toNat : Int) == 32) = true := by have := of_decide_eq_true hcb; rw [beq_iff_eq]; omega
      clear hst hcm hcb hh
      (try dsimp only); (repeat (first | (first | ((with_reducible refine on_load ?_); refine xlC (M.far H0.out) ?_; go_big_move) | ((with_reducible refine on_load ?_); refine xlC (M.far H1.out) ?_; go_big_move) | ((with_reducible refine on_indexT ?_); refine wp_indexT _ _ _ rfl Tryz.underlying9 s rfl _ m (by first | rfl | (simp; done)) c HCM.out ?_; (first | ((with_reducible refine fastK Tryz.prog rfl ?_); go_big_move) | (with_reducible refine fastN rfl ?_) | skip)) | ((with_reducible refine wl_g ?_); first | go_big_want | go_skip | ((with_reducible refine wl_off (by kernel_rfl) ?_); (first | ((with_reducible refine fastK Tryz.prog rfl ?_); go_big_move) | (with_reducible refine fastN rfl ?_) | skip))) | ((with_reducible refine on_load ?_); (first | refine xl1 M ?_ | refine xlN M ?_); go_big_move) | ((with_reducible refine on_store ?_); (first | refine xs1 M ?_ | refine xsN M ?_); clear M; intro w' M; (try simp only [List.set_cons_zero, List.set_cons_succ] at M)) | ((with_reducible refine on_alloc ?_); refine xa M ?_; clear M; intro g w' M; go_big_move)) | go_values | go_skip | go_guarded | go_step | go_upon))
      exact ⟨⟨m + 1, by omega, by go_num, HN⟩, by simp [intOf]; omega⟩
    · have hmg : m = i := by
        rw [hh.out]
        rcases Nat.lt_or_ge m s.length with hlt | hge
        · obtain ⟨c, hcm⟩ : ∃ c, s[m]? = some c := ⟨_, List.getElem?_eq_getElem hlt⟩
          rw [runLen_step (p := isBlank) hcm, if_neg (fun e => hbl ⟨c, hcm, e⟩), Nat.add_zero]
        · rw [List.drop_eq_nil_of_le hge]; rfl
      clear hh
      subst hmg
      obtain ⟨hml, q2⟩ : m < s.length ∧ (((33 : UInt8).toNat : Int) == 32) = false := by
        refine ⟨(List.getElem?_eq_some_iff.1 hc).1, ?_⟩
        rw [beq_eq_false_iff_ne]
        intro e
        cases e
      have HC := Lib.hid hc
      have q1 : decide ((m : Int) < (s.length : Int)) = true := by simp; omega
      have q3 : ((m : Int) == (s.length : Int)) = false := by rw [beq_eq_false_iff_ne]; omega
      have hw1 : IntKind.i64.wrap ((m : Int) + 1) = (m : Int) + 1 := IntWalk.i64_in _ (by omega)
      clear hc
      clear hbl
      have HL : Hid (∀ w', Calls Tryz.prog 39 #[.int .u8 33] w' fun e w'' => e = .returned (.bool false) ∧ w' = w'') := Lib.hid (fun w' => ref_letter 33 w')
      have HL2 : Hid (∀ w', Calls Tryz.prog 39 #[.int .u8 ((33 : UInt8).toNat : Int)] w' fun e w'' => e = .returned (.bool false) ∧ w' = w'') := Lib.hid (fun w' => ref_letter 33 w')
      have HD : Hid (∀ w', Calls Tryz.prog 40 #[.int .u8 33] w' fun e w'' => e = .returned (.bool false) ∧ w' = w'') := Lib.hid (fun w' => ref_digit 33 w')
      have HD2 : Hid (∀ w', Calls Tryz.prog 40 #[.int .u8 ((33 : UInt8).toNat : Int)] w' fun e w'' => e = .returned (.bool false) ∧ w' = w'') := Lib.hid (fun w' => ref_digit 33 w')
      have g3 : decide ((m : Int) + 1 < (s.length : Int)) = false := by simp; omega
      (try dsimp only); (repeat (first | (first | ((with_reducible refine on_load ?_); refine xlC (M.far H0.out) ?_; go_big_move) | ((with_reducible refine on_load ?_); refine xlC (M.far H1.out) ?_; go_big_move) | ((with_reducible refine on_indexT ?_); refine wp_indexT _ _ _ rfl Tryz.underlying9 s rfl _ m (by first | rfl | (simp; done)) 33 HC.out ?_; (first | ((with_reducible refine fastK Tryz.prog rfl ?_); go_big_move) | (with_reducible refine fastN rfl ?_) | skip)) | (first | (go_at_call 39; (with_reducible refine (HL.out _).mono ?_); rintro _ w1 ⟨rfl, rfl⟩; dsimp only) | (go_at_call 39; (with_reducible refine (HL2.out _).mono ?_); rintro _ w1 ⟨rfl, rfl⟩; dsimp only)) | (first | (go_at_call 40; (with_reducible refine (HD.out _).mono ?_); rintro _ w1 ⟨rfl, rfl⟩; dsimp only) | (go_at_call 40; (with_reducible refine (HD2.out _).mono ?_); rintro _ w1 ⟨rfl, rfl⟩; dsimp only)) | ((with_reducible refine on_cutT ?_); refine wp_cutT _ _ _ _ rfl Tryz.underlying9 s rfl _ _ m (m + 1) rfl (by first | rfl | (simp; done) | (simp; omega)) (by omega) (by omega) _ rfl ?_; (first | ((with_reducible refine fastK Tryz.prog rfl ?_); go_big_move) | (with_reducible refine fastN rfl ?_) | skip)) | ((with_reducible refine on_load ?_); (first | refine xl1 M ?_ | refine xlN M ?_); go_big_move) | ((with_reducible refine on_store ?_); (first | refine xs1 M ?_ | refine xsN M ?_); clear M; intro w' M; (try simp only [List.set_cons_zero, List.set_cons_succ] at M)) | ((with_reducible refine on_alloc ?_); refine xa M ?_; clear M; intro g w' M; go_big_move)) | go_values | go_skip | go_guarded | go_step | go_upon))
      refine ret_m1 rfl (Out.row M rfl pk (fun w => ⟨by first | (simp [go_sem]; done) | (simp [go_sem]; rfl), by first | (simp [go_sem]; done) | (simp [go_sem]; rfl)⟩)) rfl ⟨?_, M.ext_of⟩
      exact tk_eq (by first | rfl | omega) (by first | rfl | (congr 1; omega))
set_option maxRecDepth 100000 in
set_option maxHeartbeats 800000 in
theorem rnext_no_other (s : List UInt8) (hs : s.length ≤ 1048576) (gr p : Nat) (hp : p ≤ s.length) (w : World) (h0 : w.cell? ⟨gr, 0, none⟩ = some (str s)) (h1 : w.cell? ⟨gr, 1, none⟩ = some (fi (p : Int))) (i : Nat) (hi : startOf s p = i) (hc : s[i]? = some 33) (c2 : UInt8) (hc2 : s[i + 1]? = some c2) (h61 : c2.toNat ≠ 61) :
    Calls Tryz.prog 19 #[.pointer (some ⟨gr, 0, none⟩)] w fun e w' => e = .returned (.agg #[fi 5, fi (i : Int), fi ((i + 1 : Nat) : Int), str ((s.drop i).take (i + 1 - i))]) ∧ Ext w w' := by
  have M := Mem.start w
  have H0 := Lib.hid h0
  have H1 := Lib.hid h1
  have HS3 : Hid (i = p + runLen isBlank (s.drop p)) := Lib.hid hi.symm
  clear h0 h1 hi
  go_enter Tryz.func19, Tryz.ntmps19
  (try dsimp only); (repeat (first | (first | ((with_reducible refine on_load ?_); refine xlC (M.far H0.out) ?_; go_big_move) | ((with_reducible refine on_load ?_); refine xlC (M.far H1.out) ?_; go_big_move) | ((with_reducible refine wl_g ?_); first | go_big_want | go_skip | ((with_reducible refine wl_off (by kernel_rfl) ?_); (first | ((with_reducible refine fastK Tryz.prog rfl ?_); go_big_move) | (with_reducible refine fastN rfl ?_) | skip))) | ((with_reducible refine on_load ?_); (first | refine xl1 M ?_ | refine xlN M ?_); go_big_move) | ((with_reducible refine on_store ?_); (first | refine xs1 M ?_ | refine xsN M ?_); clear M; intro w' M; (try simp only [List.set_cons_zero, List.set_cons_succ] at M)) | ((with_reducible refine on_alloc ?_); refine xa M ?_; clear M; intro g w' M; go_big_move)) | go_values | go_skip | go_guarded | go_step | go_upon))
  go_loop [3] (fun x => ∃ m : Nat, m ≤ s.length ∧ x = fi (m : Int) ∧ Hid (i = m + runLen isBlank (s.drop m))) (fun x => s.length - (intOf x).toNat)
  case atStart => exact ⟨p, by omega, by go_num, HS3⟩
  case round =>
    obtain ⟨m, hm, rfl, hh⟩ := hrel
    by_cases hbl : ∃ c, s[m]? = some c ∧ isBlank c = true
    · obtain ⟨c, hcm, hcb⟩ := hbl
      have hml : m < s.length := (List.getElem?_eq_some_iff.1 hcm).1
      have q1 : decide ((m : Int) < (s.length : Int)) = true := by simp; omega
      have hwm : IntKind.i64.wrap ((m : Int) + 1) = (m : Int) + 1 := IntWalk.i64_in _ (by omega)
      have hst := runLen_step (p := isBlank) hcm
      rw [if_pos hcb] at hst
      have HN : Hid (i = (m + 1) + runLen isBlank (s.drop (m + 1))) := Lib.hid (by rw [hh.out, hst]; omega)
      have HCM := Lib.hid hcm
      have q2 : ((c.toNat : Int) == 32) = true := by have := of_decide_eq_true hcb; rw [beq_iff_eq]; omega
      clear hst hcm hcb hh
      (try dsimp only); (repeat (first | (first | ((with_reducible refine on_load ?_); refine xlC (M.far H0.out) ?_; go_big_move) | ((with_reducible refine on_load ?_); refine xlC (M.far H1.out) ?_; go_big_move) | ((with_reducible refine on_indexT ?_); refine wp_indexT _ _ _ rfl Tryz.underlying9 s rfl _ m (by first | rfl | (simp; done)) c HCM.out ?_; (first | ((with_reducible refine fastK Tryz.prog rfl ?_); go_big_move) | (with_reducible refine fastN rfl ?_) | skip)) | ((with_reducible refine wl_g ?_); first | go_big_want | go_skip | ((with_reducible refine wl_off (by kernel_rfl) ?_); (first | ((with_reducible refine fastK Tryz.prog rfl ?_); go_big_move) | (with_reducible refine fastN rfl ?_) | skip))) | ((with_reducible refine on_load ?_); (first | refine xl1 M ?_ | refine xlN M ?_); go_big_move) | ((with_reducible refine on_store ?_); (first | refine xs1 M ?_ | refine xsN M ?_); clear M; intro w' M; (try simp only [List.set_cons_zero, List.set_cons_succ] at M)) | ((with_reducible refine on_alloc ?_); refine xa M ?_; clear M; intro g w' M; go_big_move)) | go_values | go_skip | go_guarded | go_step | go_upon))
      exact ⟨⟨m + 1, by omega, by go_num, HN⟩, by simp [intOf]; omega⟩
    · have hmg : m = i := by
        rw [hh.out]
        rcases Nat.lt_or_ge m s.length with hlt | hge
        · obtain ⟨c, hcm⟩ : ∃ c, s[m]? = some c := ⟨_, List.getElem?_eq_getElem hlt⟩
          rw [runLen_step (p := isBlank) hcm, if_neg (fun e => hbl ⟨c, hcm, e⟩), Nat.add_zero]
        · rw [List.drop_eq_nil_of_le hge]; rfl
      clear hh
      subst hmg
      obtain ⟨hml, q2⟩ : m < s.length ∧ (((33 : UInt8).toNat : Int) == 32) = false := by
        refine ⟨(List.getElem?_eq_some_iff.1 hc).1, ?_⟩
        rw [beq_eq_false_iff_ne]
        intro e
        cases e
      have HC := Lib.hid hc
      have q1 : decide ((m : Int) < (s.length : Int)) = true := by simp; omega
      have q3 : ((m : Int) == (s.length : Int)) = false := by rw [beq_eq_false_iff_ne]; omega
      have hw1 : IntKind.i64.wrap ((m : Int) + 1) = (m : Int) + 1 := IntWalk.i64_in _ (by omega)
      clear hc
      clear hbl
      have HL : Hid (∀ w', Calls Tryz.prog 39 #[.int .u8 33] w' fun e w'' => e = .returned (.bool false) ∧ w' = w'') := Lib.hid (fun w' => ref_letter 33 w')
      have HL2 : Hid (∀ w', Calls Tryz.prog 39 #[.int .u8 ((33 : UInt8).toNat : Int)] w' fun e w'' => e = .returned (.bool false) ∧ w' = w'') := Lib.hid (fun w' => ref_letter 33 w')
      have HD : Hid (∀ w', Calls Tryz.prog 40 #[.int .u8 33] w' fun e w'' => e = .returned (.bool false) ∧ w' = w'') := Lib.hid (fun w' => ref_digit 33 w')
      have HD2 : Hid (∀ w', Calls Tryz.prog 40 #[.int .u8 ((33 : UInt8).toNat : Int)] w' fun e w'' => e = .returned (.bool false) ∧ w' = w'') := Lib.hid (fun w' => ref_digit 33 w')
      have hl2 : m + 1 < s.length := (List.getElem?_eq_some_iff.1 hc2).1
      have g3 : decide ((m : Int) + 1 < (s.length : Int)) = true := by simp; omega
      have g4 : ((c2.toNat : Int) == 61) = false := by rw [beq_eq_false_iff_ne]; omega
      have HC2 := Lib.hid hc2
      clear hc2 h61
      (try dsimp only); (repeat (first | (first | ((with_reducible refine on_load ?_); refine xlC (M.far H0.out) ?_; go_big_move) | ((with_reducible refine on_load ?_); refine xlC (M.far H1.out) ?_; go_big_move) | ((with_reducible refine on_indexT ?_); refine wp_indexT _ _ _ rfl Tryz.underlying9 s rfl _ m (by first | rfl | (simp; done)) 33 HC.out ?_; (first | ((with_reducible refine fastK Tryz.prog rfl ?_); go_big_move) | (with_reducible refine fastN rfl ?_) | skip)) | (first | (go_at_call 39; (with_reducible refine (HL.out _).mono ?_); rintro _ w1 ⟨rfl, rfl⟩; dsimp only) | (go_at_call 39; (with_reducible refine (HL2.out _).mono ?_); rintro _ w1 ⟨rfl, rfl⟩; dsimp only)) | (first | (go_at_call 40; (with_reducible refine (HD.out _).mono ?_); rintro _ w1 ⟨rfl, rfl⟩; dsimp only) | (go_at_call 40; (with_reducible refine (HD2.out _).mono ?_); rintro _ w1 ⟨rfl, rfl⟩; dsimp only)) | ((with_reducible refine on_indexT ?_); refine wp_indexT _ _ _ rfl Tryz.underlying9 s rfl _ (m + 1) (by first | rfl | (simp; done)) c2 HC2.out ?_; (first | ((with_reducible refine fastK Tryz.prog rfl ?_); go_big_move) | (with_reducible refine fastN rfl ?_) | skip)) | ((with_reducible refine on_cutT ?_); refine wp_cutT _ _ _ _ rfl Tryz.underlying9 s rfl _ _ m (m + 1) rfl (by first | rfl | (simp; done) | (simp; omega)) (by omega) (by omega) _ rfl ?_; (first | ((with_reducible refine fastK Tryz.prog rfl ?_); go_big_move) | (with_reducible refine fastN rfl ?_) | skip)) | ((with_reducible refine wl_g ?_); first | go_big_want | go_skip | ((with_reducible refine wl_off (by kernel_rfl) ?_); (first | ((with_reducible refine fastK Tryz.prog rfl ?_); go_big_move) | (with_reducible refine fastN rfl ?_) | skip))) | ((with_reducible refine on_load ?_); (first | refine xl1 M ?_ | refine xlN M ?_); go_big_move) | ((with_reducible refine on_store ?_); (first | refine xs1 M ?_ | refine xsN M ?_); clear M; intro w' M; (try simp only [List.set_cons_zero, List.set_cons_succ] at M)) | ((with_reducible refine on_alloc ?_); refine xa M ?_; clear M; intro g w' M; go_big_move)) | go_values | go_skip | go_guarded | go_step | go_upon))
      refine ret_m1 rfl (Out.row M rfl pk (fun w => ⟨by first | (simp [go_sem]; done) | (simp [go_sem]; rfl), by first | (simp [go_sem]; done) | (simp [go_sem]; rfl)⟩)) rfl ⟨?_, M.ext_of⟩
      exact tk_eq (by first | rfl | omega) (by first | rfl | (congr 1; omega))
set_option maxRecDepth 100000 in
set_option maxHeartbeats 800000 in
theorem rnext_lt_eq (s : List UInt8) (hs : s.length ≤ 1048576) (gr p : Nat) (hp : p ≤ s.length) (w : World) (h0 : w.cell? ⟨gr, 0, none⟩ = some (str s)) (h1 : w.cell? ⟨gr, 1, none⟩ = some (fi (p : Int))) (i : Nat) (hi : startOf s p = i) (hc : s[i]? = some 60) (hc2 : s[i + 1]? = some 61) :
    Calls Tryz.prog 19 #[.pointer (some ⟨gr, 0, none⟩)] w fun e w' => e = .returned (.agg #[fi 4, fi (i : Int), fi ((i + 1 + 1 : Nat) : Int), str ((s.drop i).take (i + 1 + 1 - i))]) ∧ Ext w w' := by
  have M := Mem.start w
  have H0 := Lib.hid h0
  have H1 := Lib.hid h1
  have HS3 : Hid (i = p + runLen isBlank (s.drop p)) := Lib.hid hi.symm
  clear h0 h1 hi
  go_enter Tryz.func19, Tryz.ntmps19
  (try dsimp only); (repeat (first | (first | ((with_reducible refine on_load ?_); refine xlC (M.far H0.out) ?_; go_big_move) | ((with_reducible refine on_load ?_); refine xlC (M.far H1.out) ?_; go_big_move) | ((with_reducible refine wl_g ?_); first | go_big_want | go_skip | ((with_reducible refine wl_off (by kernel_rfl) ?_); (first | ((with_reducible refine fastK Tryz.prog rfl ?_); go_big_move) | (with_reducible refine fastN rfl ?_) | skip))) | ((with_reducible refine on_load ?_); (first | refine xl1 M ?_ | refine xlN M ?_); go_big_move) | ((with_reducible refine on_store ?_); (first | refine xs1 M ?_ | refine xsN M ?_); clear M; intro w' M; (try simp only [List.set_cons_zero, List.set_cons_succ] at M)) | ((with_reducible refine on_alloc ?_); refine xa M ?_; clear M; intro g w' M; go_big_move)) | go_values | go_skip | go_guarded | go_step | go_upon))
  go_loop [3] (fun x => ∃ m : Nat, m ≤ s.length ∧ x = fi (m : Int) ∧ Hid (i = m + runLen isBlank (s.drop m))) (fun x => s.length - (intOf x).toNat)
  case atStart => exact ⟨p, by omega, by go_num, HS3⟩
  case round =>
    obtain ⟨m, hm, rfl, hh⟩ := hrel
    by_cases hbl : ∃ c, s[m]? = some c ∧ isBlank c = true
    · obtain ⟨c, hcm, hcb⟩ := hbl
      have hml : m < s.length := (List.getElem?_eq_some_iff.1 hcm).1
      have q1 : decide ((m : Int) < (s.length : Int)) = true := by simp; omega
      have hwm : IntKind.i64.wrap ((m : Int) + 1) = (m : Int) + 1 := IntWalk.i64_in _ (by omega)
      have hst := runLen_step (p := isBlank) hcm
      rw [if_pos hcb] at hst
      have HN : Hid (i = (m + 1) + runLen isBlank (s.drop (m + 1))) := Lib.hid (by rw [hh.out, hst]; omega)
      have HCM := Lib.hid hcm
      have q2 : ((c.toNat : Int) == 32) = true := by have := of_decide_eq_true hcb; rw [beq_iff_eq]; omega
      clear hst hcm hcb hh
      (try dsimp only); (repeat (first | (first | ((with_reducible refine on_load ?_); refine xlC (M.far H0.out) ?_; go_big_move) | ((with_reducible refine on_load ?_); refine xlC (M.far H1.out) ?_; go_big_move) | ((with_reducible refine on_indexT ?_); refine wp_indexT _ _ _ rfl Tryz.underlying9 s rfl _ m (by first | rfl | (simp; done)) c HCM.out ?_; (first | ((with_reducible refine fastK Tryz.prog rfl ?_); go_big_move) | (with_reducible refine fastN rfl ?_) | skip)) | ((with_reducible refine wl_g ?_); first | go_big_want | go_skip | ((with_reducible refine wl_off (by kernel_rfl) ?_); (first | ((with_reducible refine fastK Tryz.prog rfl ?_); go_big_move) | (with_reducible refine fastN rfl ?_) | skip))) | ((with_reducible refine on_load ?_); (first | refine xl1 M ?_ | refine xlN M ?_); go_big_move) | ((with_reducible refine on_store ?_); (first | refine xs1 M ?_ | refine xsN M ?_); clear M; intro w' M; (try simp only [List.set_cons_zero, List.set_cons_succ] at M)) | ((with_reducible refine on_alloc ?_); refine xa M ?_; clear M; intro g w' M; go_big_move)) | go_values | go_skip | go_guarded | go_step | go_upon))
      exact ⟨⟨m + 1, by omega, by go_num, HN⟩, by simp [intOf]; omega⟩
    · have hmg : m = i := by
        rw [hh.out]
        rcases Nat.lt_or_ge m s.length with hlt | hge
        · obtain ⟨c, hcm⟩ : ∃ c, s[m]? = some c := ⟨_, List.getElem?_eq_getElem hlt⟩
          rw [runLen_step (p := isBlank) hcm, if_neg (fun e => hbl ⟨c, hcm, e⟩), Nat.add_zero]
        · rw [List.drop_eq_nil_of_le hge]; rfl
      clear hh
      subst hmg
      obtain ⟨hml, q2⟩ : m < s.length ∧ (((60 : UInt8).toNat : Int) == 32) = false := by
        refine ⟨(List.getElem?_eq_some_iff.1 hc).1, ?_⟩
        rw [beq_eq_false_iff_ne]
        intro e
        cases e
      have HC := Lib.hid hc
      have q1 : decide ((m : Int) < (s.length : Int)) = true := by simp; omega
      have q3 : ((m : Int) == (s.length : Int)) = false := by rw [beq_eq_false_iff_ne]; omega
      have hw1 : IntKind.i64.wrap ((m : Int) + 1) = (m : Int) + 1 := IntWalk.i64_in _ (by omega)
      clear hc
      clear hbl
      have HL : Hid (∀ w', Calls Tryz.prog 39 #[.int .u8 60] w' fun e w'' => e = .returned (.bool false) ∧ w' = w'') := Lib.hid (fun w' => ref_letter 60 w')
      have HL2 : Hid (∀ w', Calls Tryz.prog 39 #[.int .u8 ((60 : UInt8).toNat : Int)] w' fun e w'' => e = .returned (.bool false) ∧ w' = w'') := Lib.hid (fun w' => ref_letter 60 w')
      have HD : Hid (∀ w', Calls Tryz.prog 40 #[.int .u8 60] w' fun e w'' => e = .returned (.bool false) ∧ w' = w'') := Lib.hid (fun w' => ref_digit 60 w')
      have HD2 : Hid (∀ w', Calls Tryz.prog 40 #[.int .u8 ((60 : UInt8).toNat : Int)] w' fun e w'' => e = .returned (.bool false) ∧ w' = w'') := Lib.hid (fun w' => ref_digit 60 w')
      have hl2 : m + 1 < s.length := (List.getElem?_eq_some_iff.1 hc2).1
      have g3 : decide ((m : Int) + 1 < (s.length : Int)) = true := by simp; omega
      have hw2 : IntKind.i64.wrap ((m : Int) + 1 + 1) = (m : Int) + 1 + 1 := IntWalk.i64_in _ (by omega)
      have HC2 := Lib.hid hc2
      clear hc2
      (try dsimp only); (repeat (first | (first | ((with_reducible refine on_load ?_); refine xlC (M.far H0.out) ?_; go_big_move) | ((with_reducible refine on_load ?_); refine xlC (M.far H1.out) ?_; go_big_move) | ((with_reducible refine on_indexT ?_); refine wp_indexT _ _ _ rfl Tryz.underlying9 s rfl _ m (by first | rfl | (simp; done)) 60 HC.out ?_; (first | ((with_reducible refine fastK Tryz.prog rfl ?_); go_big_move) | (with_reducible refine fastN rfl ?_) | skip)) | (first | (go_at_call 39; (with_reducible refine (HL.out _).mono ?_); rintro _ w1 ⟨rfl, rfl⟩; dsimp only) | (go_at_call 39; (with_reducible refine (HL2.out _).mono ?_); rintro _ w1 ⟨rfl, rfl⟩; dsimp only)) | (first | (go_at_call 40; (with_reducible refine (HD.out _).mono ?_); rintro _ w1 ⟨rfl, rfl⟩; dsimp only) | (go_at_call 40; (with_reducible refine (HD2.out _).mono ?_); rintro _ w1 ⟨rfl, rfl⟩; dsimp only)) | ((with_reducible refine on_indexT ?_); refine wp_indexT _ _ _ rfl Tryz.underlying9 s rfl _ (m + 1) (by first | rfl | (simp; done)) 61 HC2.out ?_; (first | ((with_reducible refine fastK Tryz.prog rfl ?_); go_big_move) | (with_reducible refine fastN rfl ?_) | skip)) | ((with_reducible refine on_cutT ?_); refine wp_cutT _ _ _ _ rfl Tryz.underlying9 s rfl _ _ m (m + 1 + 1) rfl (by first | rfl | (simp; done) | (simp; omega)) (by omega) (by omega) _ rfl ?_; (first | ((with_reducible refine fastK Tryz.prog rfl ?_); go_big_move) | (with_reducible refine fastN rfl ?_) | skip)) | ((with_reducible refine wl_g ?_); first | go_big_want | go_skip | ((with_reducible refine wl_off (by kernel_rfl) ?_); (first | ((with_reducible refine fastK Tryz.prog rfl ?_); go_big_move) | (with_reducible refine fastN rfl ?_) | skip))) | ((with_reducible refine on_load ?_); (first | refine xl1 M ?_ | refine xlN M ?_); go_big_move) | ((with_reducible refine on_store ?_); (first | refine xs1 M ?_ | refine xsN M ?_); clear M; intro w' M; (try simp only [List.set_cons_zero, List.set_cons_succ] at M)) | ((with_reducible refine on_alloc ?_); refine xa M ?_; clear M; intro g w' M; go_big_move)) | go_values | go_skip | go_guarded | go_step | go_upon))
      refine ret_m1 rfl (Out.row M rfl pk (fun w => ⟨by first | (simp [go_sem]; done) | (simp [go_sem]; rfl), by first | (simp [go_sem]; done) | (simp [go_sem]; rfl)⟩)) rfl ⟨?_, M.ext_of⟩
      exact tk_eq (by first | rfl | omega) (by first | rfl | (congr 1; omega))
set_option maxRecDepth 100000 in
set_option maxHeartbeats 800000 in
theorem rnext_lt_end (s : List UInt8) (hs : s.length ≤ 1048576) (gr p : Nat) (hp : p ≤ s.length) (w : World) (h0 : w.cell? ⟨gr, 0, none⟩ = some (str s)) (h1 : w.cell? ⟨gr, 1, none⟩ = some (fi (p : Int))) (i : Nat) (hi : startOf s p = i) (hc : s[i]? = some 60) (hend : s.length ≤ i + 1) :
    Calls Tryz.prog 19 #[.pointer (some ⟨gr, 0, none⟩)] w fun e w' => e = .returned (.agg #[fi 4, fi (i : Int), fi ((i + 1 : Nat) : Int), str ((s.drop i).take (i + 1 - i))]) ∧ Ext w w' := by
  have M := Mem.start w
  have H0 := Lib.hid h0
  have H1 := Lib.hid h1
  have HS3 : Hid (i = p + runLen isBlank (s.drop p)) := Lib.hid hi.symm
  clear h0 h1 hi
  go_enter Tryz.func19, Tryz.ntmps19
  (try dsimp only); (repeat (first | (first | ((with_reducible refine on_load ?_); refine xlC (M.far H0.out) ?_; go_big_move) | ((with_reducible refine on_load ?_); refine xlC (M.far H1.out) ?_; go_big_move) | ((with_reducible refine wl_g ?_); first | go_big_want | go_skip | ((with_reducible refine wl_off (by kernel_rfl) ?_); (first | ((with_reducible refine fastK Tryz.prog rfl ?_); go_big_move) | (with_reducible refine fastN rfl ?_) | skip))) | ((with_reducible refine on_load ?_); (first | refine xl1 M ?_ | refine xlN M ?_); go_big_move) | ((with_reducible refine on_store ?_); (first | refine xs1 M ?_ | refine xsN M ?_); clear M; intro w' M; (try simp only [List.set_cons_zero, List.set_cons_succ] at M)) | ((with_reducible refine on_alloc ?_); refine xa M ?_; clear M; intro g w' M; go_big_move)) | go_values | go_skip | go_guarded | go_step | go_upon))
  go_loop [3] (fun x => ∃ m : Nat, m ≤ s.length ∧ x = fi (m : Int) ∧ Hid (i = m + runLen isBlank (s.drop m))) (fun x => s.length - (intOf x).toNat)
  case atStart => exact ⟨p, by omega, by go_num, HS3⟩
  case round =>
    obtain ⟨m, hm, rfl, hh⟩ := hrel
    by_cases hbl : ∃ c, s[m]? = some c ∧ isBlank c = true
    · obtain ⟨c, hcm, hcb⟩ := hbl
      have hml : m < s.length := (List.getElem?_eq_some_iff.1 hcm).1
      have q1 : decide ((m : Int) < (s.length : Int)) = true := by simp; omega
      have hwm : IntKind.i64.wrap ((m : Int) + 1) = (m : Int) + 1 := IntWalk.i64_in _ (by omega)
      have hst := runLen_step (p := isBlank) hcm
      rw [if_pos hcb] at hst
      have HN : Hid (i = (m + 1) + runLen isBlank (s.drop (m + 1))) := Lib.hid (by rw [hh.out, hst]; omega)
      have HCM := Lib.hid hcm
      have q2 : ((c.toNat : Int) == 32) = true := by have := of_decide_eq_true hcb; rw [beq_iff_eq]; omega
      clear hst hcm hcb hh
      (try dsimp only); (repeat (first | (first | ((with_reducible refine on_load ?_); refine xlC (M.far H0.out) ?_; go_big_move) | ((with_reducible refine on_load ?_); refine xlC (M.far H1.out) ?_; go_big_move) | ((with_reducible refine on_indexT ?_); refine wp_indexT _ _ _ rfl Tryz.underlying9 s rfl _ m (by first | rfl | (simp; done)) c HCM.out ?_; (first | ((with_reducible refine fastK Tryz.prog rfl ?_); go_big_move) | (with_reducible refine fastN rfl ?_) | skip)) | ((with_reducible refine wl_g ?_); first | go_big_want | go_skip | ((with_reducible refine wl_off (by kernel_rfl) ?_); (first | ((with_reducible refine fastK Tryz.prog rfl ?_); go_big_move) | (with_reducible refine fastN rfl ?_) | skip))) | ((with_reducible refine on_load ?_); (first | refine xl1 M ?_ | refine xlN M ?_); go_big_move) | ((with_reducible refine on_store ?_); (first | refine xs1 M ?_ | refine xsN M ?_); clear M; intro w' M; (try simp only [List.set_cons_zero, List.set_cons_succ] at M)) | ((with_reducible refine on_alloc ?_); refine xa M ?_; clear M; intro g w' M; go_big_move)) | go_values | go_skip | go_guarded | go_step | go_upon))
      exact ⟨⟨m + 1, by omega, by go_num, HN⟩, by simp [intOf]; omega⟩
    · have hmg : m = i := by
        rw [hh.out]
        rcases Nat.lt_or_ge m s.length with hlt | hge
        · obtain ⟨c, hcm⟩ : ∃ c, s[m]? = some c := ⟨_, List.getElem?_eq_getElem hlt⟩
          rw [runLen_step (p := isBlank) hcm, if_neg (fun e => hbl ⟨c, hcm, e⟩), Nat.add_zero]
        · rw [List.drop_eq_nil_of_le hge]; rfl
      clear hh
      subst hmg
      obtain ⟨hml, q2⟩ : m < s.length ∧ (((60 : UInt8).toNat : Int) == 32) = false := by
        refine ⟨(List.getElem?_eq_some_iff.1 hc).1, ?_⟩
        rw [beq_eq_false_iff_ne]
        intro e
        cases e
      have HC := Lib.hid hc
      have q1 : decide ((m : Int) < (s.length : Int)) = true := by simp; omega
      have q3 : ((m : Int) == (s.length : Int)) = false := by rw [beq_eq_false_iff_ne]; omega
      have hw1 : IntKind.i64.wrap ((m : Int) + 1) = (m : Int) + 1 := IntWalk.i64_in _ (by omega)
      clear hc
      clear hbl
      have HL : Hid (∀ w', Calls Tryz.prog 39 #[.int .u8 60] w' fun e w'' => e = .returned (.bool false) ∧ w' = w'') := Lib.hid (fun w' => ref_letter 60 w')
      have HL2 : Hid (∀ w', Calls Tryz.prog 39 #[.int .u8 ((60 : UInt8).toNat : Int)] w' fun e w'' => e = .returned (.bool false) ∧ w' = w'') := Lib.hid (fun w' => ref_letter 60 w')
      have HD : Hid (∀ w', Calls Tryz.prog 40 #[.int .u8 60] w' fun e w'' => e = .returned (.bool false) ∧ w' = w'') := Lib.hid (fun w' => ref_digit 60 w')
      have HD2 : Hid (∀ w', Calls Tryz.prog 40 #[.int .u8 ((60 : UInt8).toNat : Int)] w' fun e w'' => e = .returned (.bool false) ∧ w' = w'') := Lib.hid (fun w' => ref_digit 60 w')
      have g3 : decide ((m : Int) + 1 < (s.length : Int)) = false := by simp; omega
      (try dsimp only); (repeat (first | (first | ((with_reducible refine on_load ?_); refine xlC (M.far H0.out) ?_; go_big_move) | ((with_reducible refine on_load ?_); refine xlC (M.far H1.out) ?_; go_big_move) | ((with_reducible refine on_indexT ?_); refine wp_indexT _ _ _ rfl Tryz.underlying9 s rfl _ m (by first | rfl | (simp; done)) 60 HC.out ?_; (first | ((with_reducible refine fastK Tryz.prog rfl ?_); go_big_move) | (with_reducible refine fastN rfl ?_) | skip)) | (first | (go_at_call 39; (with_reducible refine (HL.out _).mono ?_); rintro _ w1 ⟨rfl, rfl⟩; dsimp only) | (go_at_call 39; (with_reducible refine (HL2.out _).mono ?_); rintro _ w1 ⟨rfl, rfl⟩; dsimp only)) | (first | (go_at_call 40; (with_reducible refine (HD.out _).mono ?_); rintro _ w1 ⟨rfl, rfl⟩; dsimp only) | (go_at_call 40; (with_reducible refine (HD2.out _).mono ?_); rintro _ w1 ⟨rfl, rfl⟩; dsimp only)) | ((with_reducible refine on_cutT ?_); refine wp_cutT _ _ _ _ rfl Tryz.underlying9 s rfl _ _ m (m + 1) rfl (by first | rfl | (simp; done) | (simp; omega)) (by omega) (by omega) _ rfl ?_; (first | ((with_reducible refine fastK Tryz.prog rfl ?_); go_big_move) | (with_reducible refine fastN rfl ?_) | skip)) | ((with_reducible refine on_load ?_); (first | refine xl1 M ?_ | refine xlN M ?_); go_big_move) | ((with_reducible refine on_store ?_); (first | refine xs1 M ?_ | refine xsN M ?_); clear M; intro w' M; (try simp only [List.set_cons_zero, List.set_cons_succ] at M)) | ((with_reducible refine on_alloc ?_); refine xa M ?_; clear M; intro g w' M; go_big_move)) | go_values | go_skip | go_guarded | go_step | go_upon))
      refine ret_m1 rfl (Out.row M rfl pk (fun w => ⟨by first | (simp [go_sem]; done) | (simp [go_sem]; rfl), by first | (simp [go_sem]; done) | (simp [go_sem]; rfl)⟩)) rfl ⟨?_, M.ext_of⟩
      exact tk_eq (by first | rfl | omega) (by first | rfl | (congr 1; omega))
set_option maxRecDepth 100000 in
set_option maxHeartbeats 800000 in
theorem rnext_lt_other (s : List UInt8) (hs : s.length ≤ 1048576) (gr p : Nat) (hp : p ≤ s.length) (w : World) (h0 : w.cell? ⟨gr, 0, none⟩ = some (str s)) (h1 : w.cell? ⟨gr, 1, none⟩ = some (fi (p : Int))) (i : Nat) (hi : startOf s p = i) (hc : s[i]? = some 60) (c2 : UInt8) (hc2 : s[i + 1]? = some c2) (h61 : c2.toNat ≠ 61) :
    Calls Tryz.prog 19 #[.pointer (some ⟨gr, 0, none⟩)] w fun e w' => e = .returned (.agg #[fi 4, fi (i : Int), fi ((i + 1 : Nat) : Int), str ((s.drop i).take (i + 1 - i))]) ∧ Ext w w' := by
  have M := Mem.start w
  have H0 := Lib.hid h0
  have H1 := Lib.hid h1
  have HS3 : Hid (i = p + runLen isBlank (s.drop p)) := Lib.hid hi.symm
  clear h0 h1 hi
  go_enter Tryz.func19, Tryz.ntmps19
  (try dsimp only); (repeat (first | (first | ((with_reducible refine on_load ?_); refine xlC (M.far H0.out) ?_; go_big_move) | ((with_reducible refine on_load ?_); refine xlC (M.far H1.out) ?_; go_big_move) | ((with_reducible refine wl_g ?_); first | go_big_want | go_skip | ((with_reducible refine wl_off (by kernel_rfl) ?_); (first | ((with_reducible refine fastK Tryz.prog rfl ?_); go_big_move) | (with_reducible refine fastN rfl ?_) | skip))) | ((with_reducible refine on_load ?_); (first | refine xl1 M ?_ | refine xlN M ?_); go_big_move) | ((with_reducible refine on_store ?_); (first | refine xs1 M ?_ | refine xsN M ?_); clear M; intro w' M; (try simp only [List.set_cons_zero, List.set_cons_succ] at M)) | ((with_reducible refine on_alloc ?_); refine xa M ?_; clear M; intro g w' M; go_big_move)) | go_values | go_skip | go_guarded | go_step | go_upon))
  go_loop [3] (fun x => ∃ m : Nat, m ≤ s.length ∧ x = fi (m : Int) ∧ Hid (i = m + runLen isBlank (s.drop m))) (fun x => s.length - (intOf x).toNat)
  case atStart => exact ⟨p, by omega, by go_num, HS3⟩
  case round =>
    obtain ⟨m, hm, rfl, hh⟩ := hrel
    by_cases hbl : ∃ c, s[m]? = some c ∧ isBlank c = true
    · obtain ⟨c, hcm, hcb⟩ := hbl
      have hml : m < s.length := (List.getElem?_eq_some_iff.1 hcm).1
      have q1 : decide ((m : Int) < (s.length : Int)) = true := by simp; omega
      have hwm : IntKind.i64.wrap ((m : Int) + 1) = (m : Int) + 1 := IntWalk.i64_in _ (by omega)
      have hst := runLen_step (p := isBlank) hcm
      rw [if_pos hcb] at hst
      have HN : Hid (i = (m + 1) + runLen isBlank (s.drop (m + 1))) := Lib.hid (by rw [hh.out, hst]; omega)
      have HCM := Lib.hid hcm
      have q2 : ((c.toNat : Int) == 32) = true := by have := of_decide_eq_true hcb; rw [beq_iff_eq]; omega
      clear hst hcm hcb hh
      (try dsimp only); (repeat (first | (first | ((with_reducible refine on_load ?_); refine xlC (M.far H0.out) ?_; go_big_move) | ((with_reducible refine on_load ?_); refine xlC (M.far H1.out) ?_; go_big_move) | ((with_reducible refine on_indexT ?_); refine wp_indexT _ _ _ rfl Tryz.underlying9 s rfl _ m (by first | rfl | (simp; done)) c HCM.out ?_; (first | ((with_reducible refine fastK Tryz.prog rfl ?_); go_big_move) | (with_reducible refine fastN rfl ?_) | skip)) | ((with_reducible refine wl_g ?_); first | go_big_want | go_skip | ((with_reducible refine wl_off (by kernel_rfl) ?_); (first | ((with_reducible refine fastK Tryz.prog rfl ?_); go_big_move) | (with_reducible refine fastN rfl ?_) | skip))) | ((with_reducible refine on_load ?_); (first | refine xl1 M ?_ | refine xlN M ?_); go_big_move) | ((with_reducible refine on_store ?_); (first | refine xs1 M ?_ | refine xsN M ?_); clear M; intro w' M; (try simp only [List.set_cons_zero, List.set_cons_succ] at M)) | ((with_reducible refine on_alloc ?_); refine xa M ?_; clear M; intro g w' M; go_big_move)) | go_values | go_skip | go_guarded | go_step | go_upon))
      exact ⟨⟨m + 1, by omega, by go_num, HN⟩, by simp [intOf]; omega⟩
    · have hmg : m = i := by
        rw [hh.out]
        rcases Nat.lt_or_ge m s.length with hlt | hge
        · obtain ⟨c, hcm⟩ : ∃ c, s[m]? = some c := ⟨_, List.getElem?_eq_getElem hlt⟩
          rw [runLen_step (p := isBlank) hcm, if_neg (fun e => hbl ⟨c, hcm, e⟩), Nat.add_zero]
        · rw [List.drop_eq_nil_of_le hge]; rfl
      clear hh
      subst hmg
      obtain ⟨hml, q2⟩ : m < s.length ∧ (((60 : UInt8).toNat : Int) == 32) = false := by
        refine ⟨(List.getElem?_eq_some_iff.1 hc).1, ?_⟩
        rw [beq_eq_false_iff_ne]
        intro e
        cases e
      have HC := Lib.hid hc
      have q1 : decide ((m : Int) < (s.length : Int)) = true := by simp; omega
      have q3 : ((m : Int) == (s.length : Int)) = false := by rw [beq_eq_false_iff_ne]; omega
      have hw1 : IntKind.i64.wrap ((m : Int) + 1) = (m : Int) + 1 := IntWalk.i64_in _ (by omega)
      clear hc
      clear hbl
      have HL : Hid (∀ w', Calls Tryz.prog 39 #[.int .u8 60] w' fun e w'' => e = .returned (.bool false) ∧ w' = w'') := Lib.hid (fun w' => ref_letter 60 w')
      have HL2 : Hid (∀ w', Calls Tryz.prog 39 #[.int .u8 ((60 : UInt8).toNat : Int)] w' fun e w'' => e = .returned (.bool false) ∧ w' = w'') := Lib.hid (fun w' => ref_letter 60 w')
      have HD : Hid (∀ w', Calls Tryz.prog 40 #[.int .u8 60] w' fun e w'' => e = .returned (.bool false) ∧ w' = w'') := Lib.hid (fun w' => ref_digit 60 w')
      have HD2 : Hid (∀ w', Calls Tryz.prog 40 #[.int .u8 ((60 : UInt8).toNat : Int)] w' fun e w'' => e = .returned (.bool false) ∧ w' = w'') := Lib.hid (fun w' => ref_digit 60 w')
      have hl2 : m + 1 < s.length := (List.getElem?_eq_some_iff.1 hc2).1
      have g3 : decide ((m : Int) + 1 < (s.length : Int)) = true := by simp; omega
      have g4 : ((c2.toNat : Int) == 61) = false := by rw [beq_eq_false_iff_ne]; omega
      have HC2 := Lib.hid hc2
      clear hc2 h61
      (try dsimp only); (repeat (first | (first | ((with_reducible refine on_load ?_); refine xlC (M.far H0.out) ?_; go_big_move) | ((with_reducible refine on_load ?_); refine xlC (M.far H1.out) ?_; go_big_move) | ((with_reducible refine on_indexT ?_); refine wp_indexT _ _ _ rfl Tryz.underlying9 s rfl _ m (by first | rfl | (simp; done)) 60 HC.out ?_; (first | ((with_reducible refine fastK Tryz.prog rfl ?_); go_big_move) | (with_reducible refine fastN rfl ?_) | skip)) | (first | (go_at_call 39; (with_reducible refine (HL.out _).mono ?_); rintro _ w1 ⟨rfl, rfl⟩; dsimp only) | (go_at_call 39; (with_reducible refine (HL2.out _).mono ?_); rintro _ w1 ⟨rfl, rfl⟩; dsimp only)) | (first | (go_at_call 40; (with_reducible refine (HD.out _).mono ?_); rintro _ w1 ⟨rfl, rfl⟩; dsimp only) | (go_at_call 40; (with_reducible refine (HD2.out _).mono ?_); rintro _ w1 ⟨rfl, rfl⟩; dsimp only)) | ((with_reducible refine on_indexT ?_); refine wp_indexT _ _ _ rfl Tryz.underlying9 s rfl _ (m + 1) (by first | rfl | (simp; done)) c2 HC2.out ?_; (first | ((with_reducible refine fastK Tryz.prog rfl ?_); go_big_move) | (with_reducible refine fastN rfl ?_) | skip)) | ((with_reducible refine on_cutT ?_); refine wp_cutT _ _ _ _ rfl Tryz.underlying9 s rfl _ _ m (m + 1) rfl (by first | rfl | (simp; done) | (simp; omega)) (by omega) (by omega) _ rfl ?_; (first | ((with_reducible refine fastK Tryz.prog rfl ?_); go_big_move) | (with_reducible refine fastN rfl ?_) | skip)) | ((with_reducible refine wl_g ?_); first | go_big_want | go_skip | ((with_reducible refine wl_off (by kernel_rfl) ?_); (first | ((with_reducible refine fastK Tryz.prog rfl ?_); go_big_move) | (with_reducible refine fastN rfl ?_) | skip))) | ((with_reducible refine on_load ?_); (first | refine xl1 M ?_ | refine xlN M ?_); go_big_move) | ((with_reducible refine on_store ?_); (first | refine xs1 M ?_ | refine xsN M ?_); clear M; intro w' M; (try simp only [List.set_cons_zero, List.set_cons_succ] at M)) | ((with_reducible refine on_alloc ?_); refine xa M ?_; clear M; intro g w' M; go_big_move)) | go_values | go_skip | go_guarded | go_step | go_upon))
      refine ret_m1 rfl (Out.row M rfl pk (fun w => ⟨by first | (simp [go_sem]; done) | (simp [go_sem]; rfl), by first | (simp [go_sem]; done) | (simp [go_sem]; rfl)⟩)) rfl ⟨?_, M.ext_of⟩
      exact tk_eq (by first | rfl | omega) (by first | rfl | (congr 1; omega))
set_option maxRecDepth 100000 in
set_option maxHeartbeats 800000 in
theorem rnext_gt_eq (s : List UInt8) (hs : s.length ≤ 1048576) (gr p : Nat) (hp : p ≤ s.length) (w : World) (h0 : w.cell? ⟨gr, 0, none⟩ = some (str s)) (h1 : w.cell? ⟨gr, 1, none⟩ = some (fi (p : Int))) (i : Nat) (hi : startOf s p = i) (hc : s[i]? = some 62) (hc2 : s[i + 1]? = some 61) :
    Calls Tryz.prog 19 #[.pointer (some ⟨gr, 0, none⟩)] w fun e w' => e = .returned (.agg #[fi 4, fi (i : Int), fi ((i + 1 + 1 : Nat) : Int), str ((s.drop i).take (i + 1 + 1 - i))]) ∧ Ext w w' := by
  have M := Mem.start w
  have H0 := Lib.hid h0
  have H1 := Lib.hid h1
  have HS3 : Hid (i = p + runLen isBlank (s.drop p)) := Lib.hid hi.symm
  clear h0 h1 hi
  go_enter Tryz.func19, Tryz.ntmps19
  (try dsimp only); (repeat (first | (first | ((with_reducible refine on_load ?_); refine xlC (M.far H0.out) ?_; go_big_move) | ((with_reducible refine on_load ?_); refine xlC (M.far H1.out) ?_; go_big_move) | ((with_reducible refine wl_g ?_); first | go_big_want | go_skip | ((with_reducible refine wl_off (by kernel_rfl) ?_); (first | ((with_reducible refine fastK Tryz.prog rfl ?_); go_big_move) | (with_reducible refine fastN rfl ?_) | skip))) | ((with_reducible refine on_load ?_); (first | refine xl1 M ?_ | refine xlN M ?_); go_big_move) | ((with_reducible refine on_store ?_); (first | refine xs1 M ?_ | refine xsN M ?_); clear M; intro w' M; (try simp only [List.set_cons_zero, List.set_cons_succ] at M)) | ((with_reducible refine on_alloc ?_); refine xa M ?_; clear M; intro g w' M; go_big_move)) | go_values | go_skip | go_guarded | go_step | go_upon))
  go_loop [3] (fun x => ∃ m : Nat, m ≤ s.length ∧ x = fi (m : Int) ∧ Hid (i = m + runLen isBlank (s.drop m))) (fun x => s.length - (intOf x).toNat)
  case atStart => exact ⟨p, by omega, by go_num, HS3⟩
  case round =>
    obtain ⟨m, hm, rfl, hh⟩ := hrel
    by_cases hbl : ∃ c, s[m]? = some c ∧ isBlank c = true
    · obtain ⟨c, hcm, hcb⟩ := hbl
      have hml : m < s.length := (List.getElem?_eq_some_iff.1 hcm).1
      have q1 : decide ((m : Int) < (s.length : Int)) = true := by simp; omega
      have hwm : IntKind.i64.wrap ((m : Int) + 1) = (m : Int) + 1 := IntWalk.i64_in _ (by omega)
      have hst := runLen_step (p := isBlank) hcm
      rw [if_pos hcb] at hst
      have HN : Hid (i = (m + 1) + runLen isBlank (s.drop (m + 1))) := Lib.hid (by rw [hh.out, hst]; omega)
      have HCM := Lib.hid hcm
      have q2 : ((c.toNat : Int) == 32) = true := by have := of_decide_eq_true hcb; rw [beq_iff_eq]; omega
      clear hst hcm hcb hh
      (try dsimp only); (repeat (first | (first | ((with_reducible refine on_load ?_); refine xlC (M.far H0.out) ?_; go_big_move) | ((with_reducible refine on_load ?_); refine xlC (M.far H1.out) ?_; go_big_move) | ((with_reducible refine on_indexT ?_); refine wp_indexT _ _ _ rfl Tryz.underlying9 s rfl _ m (by first | rfl | (simp; done)) c HCM.out ?_; (first | ((with_reducible refine fastK Tryz.prog rfl ?_); go_big_move) | (with_reducible refine fastN rfl ?_) | skip)) | ((with_reducible refine wl_g ?_); first | go_big_want | go_skip | ((with_reducible refine wl_off (by kernel_rfl) ?_); (first | ((with_reducible refine fastK Tryz.prog rfl ?_); go_big_move) | (with_reducible refine fastN rfl ?_) | skip))) | ((with_reducible refine on_load ?_); (first | refine xl1 M ?_ | refine xlN M ?_); go_big_move) | ((with_reducible refine on_store ?_); (first | refine xs1 M ?_ | refine xsN M ?_); clear M; intro w' M; (try simp only [List.set_cons_zero, List.set_cons_succ] at M)) | ((with_reducible refine on_alloc ?_); refine xa M ?_; clear M; intro g w' M; go_big_move)) | go_values | go_skip | go_guarded | go_step | go_upon))
      exact ⟨⟨m + 1, by omega, by go_num, HN⟩, by simp [intOf]; omega⟩
    · have hmg : m = i := by
        rw [hh.out]
        rcases Nat.lt_or_ge m s.length with hlt | hge
        · obtain ⟨c, hcm⟩ : ∃ c, s[m]? = some c := ⟨_, List.getElem?_eq_getElem hlt⟩
          rw [runLen_step (p := isBlank) hcm, if_neg (fun e => hbl ⟨c, hcm, e⟩), Nat.add_zero]
        · rw [List.drop_eq_nil_of_le hge]; rfl
      clear hh
      subst hmg
      obtain ⟨hml, q2⟩ : m < s.length ∧ (((62 : UInt8).toNat : Int) == 32) = false := by
        refine ⟨(List.getElem?_eq_some_iff.1 hc).1, ?_⟩
        rw [beq_eq_false_iff_ne]
        intro e
        cases e
      have HC := Lib.hid hc
      have q1 : decide ((m : Int) < (s.length : Int)) = true := by simp; omega
      have q3 : ((m : Int) == (s.length : Int)) = false := by rw [beq_eq_false_iff_ne]; omega
      have hw1 : IntKind.i64.wrap ((m : Int) + 1) = (m : Int) + 1 := IntWalk.i64_in _ (by omega)
      clear hc
      clear hbl
      have HL : Hid (∀ w', Calls Tryz.prog 39 #[.int .u8 62] w' fun e w'' => e = .returned (.bool false) ∧ w' = w'') := Lib.hid (fun w' => ref_letter 62 w')
      have HL2 : Hid (∀ w', Calls Tryz.prog 39 #[.int .u8 ((62 : UInt8).toNat : Int)] w' fun e w'' => e = .returned (.bool false) ∧ w' = w'') := Lib.hid (fun w' => ref_letter 62 w')
      have HD : Hid (∀ w', Calls Tryz.prog 40 #[.int .u8 62] w' fun e w'' => e = .returned (.bool false) ∧ w' = w'') := Lib.hid (fun w' => ref_digit 62 w')
      have HD2 : Hid (∀ w', Calls Tryz.prog 40 #[.int .u8 ((62 : UInt8).toNat : Int)] w' fun e w'' => e = .returned (.bool false) ∧ w' = w'') := Lib.hid (fun w' => ref_digit 62 w')
      have hl2 : m + 1 < s.length := (List.getElem?_eq_some_iff.1 hc2).1
      have g3 : decide ((m : Int) + 1 < (s.length : Int)) = true := by simp; omega
      have hw2 : IntKind.i64.wrap ((m : Int) + 1 + 1) = (m : Int) + 1 + 1 := IntWalk.i64_in _ (by omega)
      have HC2 := Lib.hid hc2
      clear hc2
      (try dsimp only); (repeat (first | (first | ((with_reducible refine on_load ?_); refine xlC (M.far H0.out) ?_; go_big_move) | ((with_reducible refine on_load ?_); refine xlC (M.far H1.out) ?_; go_big_move) | ((with_reducible refine on_indexT ?_); refine wp_indexT _ _ _ rfl Tryz.underlying9 s rfl _ m (by first | rfl | (simp; done)) 62 HC.out ?_; (first | ((with_reducible refine fastK Tryz.prog rfl ?_); go_big_move) | (with_reducible refine fastN rfl ?_) | skip)) | (first | (go_at_call 39; (with_reducible refine (HL.out _).mono ?_); rintro _ w1 ⟨rfl, rfl⟩; dsimp only) | (go_at_call 39; (with_reducible refine (HL2.out _).mono ?_); rintro _ w1 ⟨rfl, rfl⟩; dsimp only)) | (first | (go_at_call 40; (with_reducible refine (HD.out _).mono ?_); rintro _ w1 ⟨rfl, rfl⟩; dsimp only) | (go_at_call 40; (with_reducible refine (HD2.out _).mono ?_); rintro _ w1 ⟨rfl, rfl⟩; dsimp only)) | ((with_reducible refine on_indexT ?_); refine wp_indexT _ _ _ rfl Tryz.underlying9 s rfl _ (m + 1) (by first | rfl | (simp; done)) 61 HC2.out ?_; (first | ((with_reducible refine fastK Tryz.prog rfl ?_); go_big_move) | (with_reducible refine fastN rfl ?_) | skip)) | ((with_reducible refine on_cutT ?_); refine wp_cutT _ _ _ _ rfl Tryz.underlying9 s rfl _ _ m (m + 1 + 1) rfl (by first | rfl | (simp; done) | (simp; omega)) (by omega) (by omega) _ rfl ?_; (first | ((with_reducible refine fastK Tryz.prog rfl ?_); go_big_move) | (with_reducible refine fastN rfl ?_) | skip)) | ((with_reducible refine wl_g ?_); first | go_big_want | go_skip | ((with_reducible refine wl_off (by kernel_rfl) ?_); (first | ((with_reducible refine fastK Tryz.prog rfl ?_); go_big_move) | (with_reducible refine fastN rfl ?_) | skip))) | ((with_reducible refine on_load ?_); (first | refine xl1 M ?_ | refine xlN M ?_); go_big_move) | ((with_reducible refine on_store ?_); (first | refine xs1 M ?_ | refine xsN M ?_); clear M; intro w' M; (try simp only [List.set_cons_zero, List.set_cons_succ] at M)) | ((with_reducible refine on_alloc ?_); refine xa M ?_; clear M; intro g w' M; go_big_move)) | go_values | go_skip | go_guarded | go_step | go_upon))
      refine ret_m1 rfl (Out.row M rfl pk (fun w => ⟨by first | (simp [go_sem]; done) | (simp [go_sem]; rfl), by first | (simp [go_sem]; done) | (simp [go_sem]; rfl)⟩)) rfl ⟨?_, M.ext_of⟩
      exact tk_eq (by first | rfl | omega) (by first | rfl | (congr 1; omega))
set_option maxRecDepth 100000 in
set_option maxHeartbeats 800000 in
theorem rnext_gt_end (s : List UInt8) (hs : s.length ≤ 1048576) (gr p : Nat) (hp : p ≤ s.length) (w : World) (h0 : w.cell? ⟨gr, 0, none⟩ = some (str s)) (h1 : w.cell? ⟨gr, 1, none⟩ = some (fi (p : Int))) (i : Nat) (hi : startOf s p = i) (hc : s[i]? = some 62) (hend : s.length ≤ i + 1) :
    Calls Tryz.prog 19 #[.pointer (some ⟨gr, 0, none⟩)] w fun e w' => e = .returned (.agg #[fi 4, fi (i : Int), fi ((i + 1 : Nat) : Int), str ((s.drop i).take (i + 1 - i))]) ∧ Ext w w' := by
  have M := Mem.start w
  have H0 := Lib.hid h0
  have H1 := Lib.hid h1
  have HS3 : Hid (i = p + runLen isBlank (s.drop p)) := Lib.hid hi.symm
  clear h0 h1 hi
  go_enter Tryz.func19, Tryz.ntmps19
  (try dsimp only); (repeat (first | (first | ((with_reducible refine on_load ?_); refine xlC (M.far H0.out) ?_; go_big_move) | ((with_reducible refine on_load ?_); refine xlC (M.far H1.out) ?_; go_big_move) | ((with_reducible refine wl_g ?_); first | go_big_want | go_skip | ((with_reducible refine wl_off (by kernel_rfl) ?_); (first | ((with_reducible refine fastK Tryz.prog rfl ?_); go_big_move) | (with_reducible refine fastN rfl ?_) | skip))) | ((with_reducible refine on_load ?_); (first | refine xl1 M ?_ | refine xlN M ?_); go_big_move) | ((with_reducible refine on_store ?_); (first | refine xs1 M ?_ | refine xsN M ?_); clear M; intro w' M; (try simp only [List.set_cons_zero, List.set_cons_succ] at M)) | ((with_reducible refine on_alloc ?_); refine xa M ?_; clear M; intro g w' M; go_big_move)) | go_values | go_skip | go_guarded | go_step | go_upon))
  go_loop [3] (fun x => ∃ m : Nat, m ≤ s.length ∧ x = fi (m : Int) ∧ Hid (i = m + runLen isBlank (s.drop m))) (fun x => s.length - (intOf x).toNat)
  case atStart => exact ⟨p, by omega, by go_num, HS3⟩
  case round =>
    obtain ⟨m, hm, rfl, hh⟩ := hrel
    by_cases hbl : ∃ c, s[m]? = some c ∧ isBlank c = true
    · obtain ⟨c, hcm, hcb⟩ := hbl
      have hml : m < s.length := (List.getElem?_eq_some_iff.1 hcm).1
      have q1 : decide ((m : Int) < (s.length : Int)) = true := by simp; omega
      have hwm : IntKind.i64.wrap ((m : Int) + 1) = (m : Int) + 1 := IntWalk.i64_in _ (by omega)
      have hst := runLen_step (p := isBlank) hcm
      rw [if_pos hcb] at hst
      have HN : Hid (i = (m + 1) + runLen isBlank (s.drop (m + 1))) := Lib.hid (by rw [hh.out, hst]; omega)
      have HCM := Lib.hid hcm
      have q2 : ((c.toNat : Int) == 32) = true := by have := of_decide_eq_true hcb; rw [beq_iff_eq]; omega
      clear hst hcm hcb hh
      (try dsimp only); (repeat (first | (first | ((with_reducible refine on_load ?_); refine xlC (M.far H0.out) ?_; go_big_move) | ((with_reducible refine on_load ?_); refine xlC (M.far H1.out) ?_; go_big_move) | ((with_reducible refine on_indexT ?_); refine wp_indexT _ _ _ rfl Tryz.underlying9 s rfl _ m (by first | rfl | (simp; done)) c HCM.out ?_; (first | ((with_reducible refine fastK Tryz.prog rfl ?_); go_big_move) | (with_reducible refine fastN rfl ?_) | skip)) | ((with_reducible refine wl_g ?_); first | go_big_want | go_skip | ((with_reducible refine wl_off (by kernel_rfl) ?_); (first | ((with_reducible refine fastK Tryz.prog rfl ?_); go_big_move) | (with_reducible refine fastN rfl ?_) | skip))) | ((with_reducible refine on_load ?_); (first | refine xl1 M ?_ | refine xlN M ?_); go_big_move) | ((with_reducible refine on_store ?_); (first | refine xs1 M ?_ | refine xsN M ?_); clear M; intro w' M; (try simp only [List.set_cons_zero, List.set_cons_succ] at M)) | ((with_reducible refine on_alloc ?_); refine xa M ?_; clear M; intro g w' M; go_big_move)) | go_values | go_skip | go_guarded | go_step | go_upon))
      exact ⟨⟨m + 1, by omega, by go_num, HN⟩, by simp [intOf]; omega⟩
    · have hmg : m = i := by
        rw [hh.out]
        rcases Nat.lt_or_ge m s.length with hlt | hge
        · obtain ⟨c, hcm⟩ : ∃ c, s[m]? = some c := ⟨_, List.getElem?_eq_getElem hlt⟩
          rw [runLen_step (p := isBlank) hcm, if_neg (fun e => hbl ⟨c, hcm, e⟩), Nat.add_zero]
        · rw [List.drop_eq_nil_of_le hge]; rfl
      clear hh
      subst hmg
      obtain ⟨hml, q2⟩ : m < s.length ∧ (((62 : UInt8).toNat : Int) == 32) = false := by
        refine ⟨(List.getElem?_eq_some_iff.1 hc).1, ?_⟩
        rw [beq_eq_false_iff_ne]
        intro e
        cases e
      have HC := Lib.hid hc
      have q1 : decide ((m : Int) < (s.length : Int)) = true := by simp; omega
      have q3 : ((m : Int) == (s.length : Int)) = false := by rw [beq_eq_false_iff_ne]; omega
      have hw1 : IntKind.i64.wrap ((m : Int) + 1) = (m : Int) + 1 := IntWalk.i64_in _ (by omega)
      clear hc
      clear hbl
      have HL : Hid (∀ w', Calls Tryz.prog 39 #[.int .u8 62] w' fun e w'' => e = .returned (.bool false) ∧ w' = w'') := Lib.hid (fun w' => ref_letter 62 w')
      have HL2 : Hid (∀ w', Calls Tryz.prog 39 #[.int .u8 ((62 : UInt8).toNat : Int)] w' fun e w'' => e = .returned (.bool false) ∧ w' = w'') := Lib.hid (fun w' => ref_letter 62 w')
      have HD : Hid (∀ w', Calls Tryz.prog 40 #[.int .u8 62] w' fun e w'' => e = .returned (.bool false) ∧ w' = w'') := Lib.hid (fun w' => ref_digit 62 w')
      have HD2 : Hid (∀ w', Calls Tryz.prog 40 #[.int .u8 ((62 : UInt8).toNat : Int)] w' fun e w'' => e = .returned (.bool false) ∧ w' = w'') := Lib.hid (fun w' => ref_digit 62 w')
      have g3 : decide ((m : Int) + 1 < (s.length : Int)) = false := by simp; omega
      (try dsimp only); (repeat (first | (first | ((with_reducible refine on_load ?_); refine xlC (M.far H0.out) ?_; go_big_move) | ((with_reducible refine on_load ?_); refine xlC (M.far H1.out) ?_; go_big_move) | ((with_reducible refine on_indexT ?_); refine wp_indexT _ _ _ rfl Tryz.underlying9 s rfl _ m (by first | rfl | (simp; done)) 62 HC.out ?_; (first | ((with_reducible refine fastK Tryz.prog rfl ?_); go_big_move) | (with_reducible refine fastN rfl ?_) | skip)) | (first | (go_at_call 39; (with_reducible refine (HL.out _).mono ?_); rintro _ w1 ⟨rfl, rfl⟩; dsimp only) | (go_at_call 39; (with_reducible refine (HL2.out _).mono ?_); rintro _ w1 ⟨rfl, rfl⟩; dsimp only)) | (first | (go_at_call 40; (with_reducible refine (HD.out _).mono ?_); rintro _ w1 ⟨rfl, rfl⟩; dsimp only) | (go_at_call 40; (with_reducible refine (HD2.out _).mono ?_); rintro _ w1 ⟨rfl, rfl⟩; dsimp only)) | ((with_reducible refine on_cutT ?_); refine wp_cutT _ _ _ _ rfl Tryz.underlying9 s rfl _ _ m (m + 1) rfl (by first | rfl | (simp; done) | (simp; omega)) (by omega) (by omega) _ rfl ?_; (first | ((with_reducible refine fastK Tryz.prog rfl ?_); go_big_move) | (with_reducible refine fastN rfl ?_) | skip)) | ((with_reducible refine on_load ?_); (first | refine xl1 M ?_ | refine xlN M ?_); go_big_move) | ((with_reducible refine on_store ?_); (first | refine xs1 M ?_ | refine xsN M ?_); clear M; intro w' M; (try simp only [List.set_cons_zero, List.set_cons_succ] at M)) | ((with_reducible refine on_alloc ?_); refine xa M ?_; clear M; intro g w' M; go_big_move)) | go_values | go_skip | go_guarded | go_step | go_upon))
      refine ret_m1 rfl (Out.row M rfl pk (fun w => ⟨by first | (simp [go_sem]; done) | (simp [go_sem]; rfl), by first | (simp [go_sem]; done) | (simp [go_sem]; rfl)⟩)) rfl ⟨?_, M.ext_of⟩
      exact tk_eq (by first | rfl | omega) (by first | rfl | (congr 1; omega))
set_option maxRecDepth 100000 in
set_option maxHeartbeats 800000 in
theorem rnext_gt_other (s : List UInt8) (hs : s.length ≤ 1048576) (gr p : Nat) (hp : p ≤ s.length) (w : World) (h0 : w.cell? ⟨gr, 0, none⟩ = some (str s)) (h1 : w.cell? ⟨gr, 1, none⟩ = some (fi (p : Int))) (i : Nat) (hi : startOf s p = i) (hc : s[i]? = some 62) (c2 : UInt8) (hc2 : s[i + 1]? = some c2) (h61 : c2.toNat ≠ 61) :
    Calls Tryz.prog 19 #[.pointer (some ⟨gr, 0, none⟩)] w fun e w' => e = .returned (.agg #[fi 4, fi (i : Int), fi ((i + 1 : Nat) : Int), str ((s.drop i).take (i + 1 - i))]) ∧ Ext w w' := by
  have M := Mem.start w
  have H0 := Lib.hid h0
  have H1 := Lib.hid h1
  have HS3 : Hid (i = p + runLen isBlank (s.drop p)) := Lib.hid hi.symm
  clear h0 h1 hi
  go_enter Tryz.func19, Tryz.ntmps19
  (try dsimp only); (repeat (first | (first | ((with_reducible refine on_load ?_); refine xlC (M.far H0.out) ?_; go_big_move) | ((with_reducible refine on_load ?_); refine xlC (M.far H1.out) ?_; go_big_move) | ((with_reducible refine wl_g ?_); first | go_big_want | go_skip | ((with_reducible refine wl_off (by kernel_rfl) ?_); (first | ((with_reducible refine fastK Tryz.prog rfl ?_); go_big_move) | (with_reducible refine fastN rfl ?_) | skip))) | ((with_reducible refine on_load ?_); (first | refine xl1 M ?_ | refine xlN M ?_); go_big_move) | ((with_reducible refine on_store ?_); (first | refine xs1 M ?_ | refine xsN M ?_); clear M; intro w' M; (try simp only [List.set_cons_zero, List.set_cons_succ] at M)) | ((with_reducible refine on_alloc ?_); refine xa M ?_; clear M; intro g w' M; go_big_move)) | go_values | go_skip | go_guarded | go_step | go_upon))
  go_loop [3] (fun x => ∃ m : Nat, m ≤ s.length ∧ x = fi (m : Int) ∧ Hid (i = m + runLen isBlank (s.drop m))) (fun x => s.length - (intOf x).toNat)
  case atStart => exact ⟨p, by omega, by go_num, HS3⟩
  case round =>
    obtain ⟨m, hm, rfl, hh⟩ := hrel
    by_cases hbl : ∃ c, s[m]? = some c ∧ isBlank c = true
    · obtain ⟨c, hcm, hcb⟩ := hbl
      have hml : m < s.length := (List.getElem?_eq_some_iff.1 hcm).1
      have q1 : decide ((m : Int) < (s.length : Int)) = true := by simp; omega
      have hwm : IntKind.i64.wrap ((m : Int) + 1) = (m : Int) + 1 := IntWalk.i64_in _ (by omega)
      have hst := runLen_step (p := isBlank) hcm
      rw [if_pos hcb] at hst
      have HN : Hid (i = (m + 1) + runLen isBlank (s.drop (m + 1))) := Lib.hid (by rw [hh.out, hst]; omega)
      have HCM := Lib.hid hcm
      have q2 : ((c.toNat : Int) == 32) = true := by have := of_decide_eq_true hcb; rw [beq_iff_eq]; omega
      clear hst hcm hcb hh
      (try dsimp only); (repeat (first | (first | ((with_reducible refine on_load ?_); refine xlC (M.far H0.out) ?_; go_big_move) | ((with_reducible refine on_load ?_); refine xlC (M.far H1.out) ?_; go_big_move) | ((with_reducible refine on_indexT ?_); refine wp_indexT _ _ _ rfl Tryz.underlying9 s rfl _ m (by first | rfl | (simp; done)) c HCM.out ?_; (first | ((with_reducible refine fastK Tryz.prog rfl ?_); go_big_move) | (with_reducible refine fastN rfl ?_) | skip)) | ((with_reducible refine wl_g ?_); first | go_big_want | go_skip | ((with_reducible refine wl_off (by kernel_rfl) ?_); (first | ((with_reducible refine fastK Tryz.prog rfl ?_); go_big_move) | (with_reducible refine fastN rfl ?_) | skip))) | ((with_reducible refine on_load ?_); (first | refine xl1 M ?_ | refine xlN M ?_); go_big_move) | ((with_reducible refine on_store ?_); (first | refine xs1 M ?_ | refine xsN M ?_); clear M; intro w' M; (try simp only [List.set_cons_zero, List.set_cons_succ] at M)) | ((with_reducible refine on_alloc ?_); refine xa M ?_; clear M; intro g w' M; go_big_move)) | go_values | go_skip | go_guarded | go_step | go_upon))
      exact ⟨⟨m + 1, by omega, by go_num, HN⟩, by simp [intOf]; omega⟩
    · have hmg : m = i := by
        rw [hh.out]
        rcases Nat.lt_or_ge m s.length with hlt | hge
        · obtain ⟨c, hcm⟩ : ∃ c, s[m]? = some c := ⟨_, List.getElem?_eq_getElem hlt⟩
          rw [runLen_step (p := isBlank) hcm, if_neg (fun e => hbl ⟨c, hcm, e⟩), Nat.add_zero]
        · rw [List.drop_eq_nil_of_le hge]; rfl
      clear hh
      subst hmg
      obtain ⟨hml, q2⟩ : m < s.length ∧ (((62 : UInt8).toNat : Int) == 32) = false := by
        refine ⟨(List.getElem?_eq_some_iff.1 hc).1, ?_⟩
        rw [beq_eq_false_iff_ne]
        intro e
        cases e
      have HC := Lib.hid hc
      have q1 : decide ((m : Int) < (s.length : Int)) = true := by simp; omega
      have q3 : ((m : Int) == (s.length : Int)) = false := by rw [beq_eq_false_iff_ne]; omega
      have hw1 : IntKind.i64.wrap ((m : Int) + 1) = (m : Int) + 1 := IntWalk.i64_in _ (by omega)
      clear hc
      clear hbl
      have HL : Hid (∀ w', Calls Tryz.prog 39 #[.int .u8 62] w' fun e w'' => e = .returned (.bool false) ∧ w' = w'') := Lib.hid (fun w' => ref_letter 62 w')
      have HL2 : Hid (∀ w', Calls Tryz.prog 39 #[.int .u8 ((62 : UInt8).toNat : Int)] w' fun e w'' => e = .returned (.bool false) ∧ w' = w'') := Lib.hid (fun w' => ref_letter 62 w')
      have HD : Hid (∀ w', Calls Tryz.prog 40 #[.int .u8 62] w' fun e w'' => e = .returned (.bool false) ∧ w' = w'') := Lib.hid (fun w' => ref_digit 62 w')
      have HD2 : Hid (∀ w', Calls Tryz.prog 40 #[.int .u8 ((62 : UInt8).toNat : Int)] w' fun e w'' => e = .returned (.bool false) ∧ w' = w'') := Lib.hid (fun w' => ref_digit 62 w')
      have hl2 : m + 1 < s.length := (List.getElem?_eq_some_iff.1 hc2).1
      have g3 : decide ((m : Int) + 1 < (s.length : Int)) = true := by simp; omega
      have g4 : ((c2.toNat : Int) == 61) = false := by rw [beq_eq_false_iff_ne]; omega
      have HC2 := Lib.hid hc2
      clear hc2 h61
      (try dsimp only); (repeat (first | (first | ((with_reducible refine on_load ?_); refine xlC (M.far H0.out) ?_; go_big_move) | ((with_reducible refine on_load ?_); refine xlC (M.far H1.out) ?_; go_big_move) | ((with_reducible refine on_indexT ?_); refine wp_indexT _ _ _ rfl Tryz.underlying9 s rfl _ m (by first | rfl | (simp; done)) 62 HC.out ?_; (first | ((with_reducible refine fastK Tryz.prog rfl ?_); go_big_move) | (with_reducible refine fastN rfl ?_) | skip)) | (first | (go_at_call 39; (with_reducible refine (HL.out _).mono ?_); rintro _ w1 ⟨rfl, rfl⟩; dsimp only) | (go_at_call 39; (with_reducible refine (HL2.out _).mono ?_); rintro _ w1 ⟨rfl, rfl⟩; dsimp only)) | (first | (go_at_call 40; (with_reducible refine (HD.out _).mono ?_); rintro _ w1 ⟨rfl, rfl⟩; dsimp only) | (go_at_call 40; (with_reducible refine (HD2.out _).mono ?_); rintro _ w1 ⟨rfl, rfl⟩; dsimp only)) | ((with_reducible refine on_indexT ?_); refine wp_indexT _ _ _ rfl Tryz.underlying9 s rfl _ (m + 1) (by first | rfl | (simp; done)) c2 HC2.out ?_; (first | ((with_reducible refine fastK Tryz.prog rfl ?_); go_big_move) | (with_reducible refine fastN rfl ?_) | skip)) | ((with_reducible refine on_cutT ?_); refine wp_cutT _ _ _ _ rfl Tryz.underlying9 s rfl _ _ m (m + 1) rfl (by first | rfl | (simp; done) | (simp; omega)) (by omega) (by omega) _ rfl ?_; (first | ((with_reducible refine fastK Tryz.prog rfl ?_); go_big_move) | (with_reducible refine fastN rfl ?_) | skip)) | ((with_reducible refine wl_g ?_); first | go_big_want | go_skip | ((with_reducible refine wl_off (by kernel_rfl) ?_); (first | ((with_reducible refine fastK Tryz.prog rfl ?_); go_big_move) | (with_reducible refine fastN rfl ?_) | skip))) | ((with_reducible refine on_load ?_); (first | refine xl1 M ?_ | refine xlN M ?_); go_big_move) | ((with_reducible refine on_store ?_); (first | refine xs1 M ?_ | refine xsN M ?_); clear M; intro w' M; (try simp only [List.set_cons_zero, List.set_cons_succ] at M)) | ((with_reducible refine on_alloc ?_); refine xa M ?_; clear M; intro g w' M; go_big_move)) | go_values | go_skip | go_guarded | go_step | go_upon))
      refine ret_m1 rfl (Out.row M rfl pk (fun w => ⟨by first | (simp [go_sem]; done) | (simp [go_sem]; rfl), by first | (simp [go_sem]; done) | (simp [go_sem]; rfl)⟩)) rfl ⟨?_, M.ext_of⟩
      exact tk_eq (by first | rfl | omega) (by first | rfl | (congr 1; omega))
end Go.Proofs.YtkblkdnihppmnaaGreatDoor
