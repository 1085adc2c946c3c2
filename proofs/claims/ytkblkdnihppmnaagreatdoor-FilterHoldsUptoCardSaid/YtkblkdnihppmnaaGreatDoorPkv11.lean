/- Parts of this work, one behind the other: FiltW3e. -/
import Derived.Test.YtkblkdnihppmnaaGreatDoorPkv6
/- Filters (layer 21): the program's tokens (walk, third part, e: next; printed by gen_w3.py). -/
namespace Go.Proofs.YtkblkdnihppmnaaGreatDoor
set_option linter.unusedSimpArgs false
set_option linter.unusedVariables false
open Go.RowKit Res Filt

set_option maxRecDepth 100000 in
set_option maxHeartbeats 800000 in
theorem next_mark2 (s : List UInt8) (hs : s.length ≤ 1048576) (p : Nat) (hp : p ≤ s.length) (i : Nat) (hi : startOf s p = i) (c : UInt8) (hc : s[i]? = some c) (h1 : isSmall c = false) (h2 : isDigit c = false) (hm : c.toNat = 33 ∨ c.toNat = 60 ∨ c.toNat = 62) (c2 : UInt8) (hc2 : s[i + 1]? = some c2) (h61 : c2.toNat = 61) {S : Nat → Prop} {g : Nat} {k0 t0 d : Int} {ts : List UInt8} {w : World} (M : Mem S w [rd g s p k0 t0 ts d] w) :
    Calls Tryz.prog 16 #[.pointer (some ⟨g, 0, none⟩)] w fun e w' => e = .returned (.tuple #[]) ∧ Mem S w [rd g s ((i + 1 + 1 : Nat) : Int) 4 i ((s.drop i).take (i + 1 + 1 - i)) d] w' := by
  have HB : Hid (∀ w', w'.cell? ⟨g, 0, none⟩ = some (str s) → Calls Tryz.prog 29 #[.pointer (some ⟨g, 0, none⟩), fi p, .func (.func 30) #[] #[]] w' fun e w'' => e = .returned (fi i) ∧ w' = w'') := Lib.hid (fun w' hc => by rw [← hi]; exact row_blank s hs g p hp w' hc)
  clear hi
  have hlt : i < s.length := (List.getElem?_eq_some_iff.1 hc).1
  have he2 : ((i : Int) == (s.length : Int)) = false := by rw [beq_eq_false_iff_ne]; omega
  have hw1 : IntKind.i64.wrap ((i : Int) + 1) = (i : Int) + 1 := IntWalk.i64_in _ (by omega)
  have hc256 : c.toNat < 256 := c.toNat_lt
  have HC := Lib.hid hc
  clear hc
  have HS : Hid (∀ w', Calls Tryz.prog 31 #[.int .u8 (c.toNat : Int)] w' fun e w'' => e = .returned (.bool false) ∧ w' = w'') := Lib.hid (fun w' => by rw [← h1]; exact small_any c w')
  have HD : Hid (∀ w', Calls Tryz.prog 33 #[.int .u8 (c.toNat : Int)] w' fun e w'' => e = .returned (.bool false) ∧ w' = w'') := Lib.hid (fun w' => by rw [← h2]; exact digit_any c w')
  have n45 : ((c.toNat : Int) == 45) = false := by rw [beq_eq_false_iff_ne]; omega
  have n34 : ((c.toNat : Int) == 34) = false := by rw [beq_eq_false_iff_ne]; omega
  obtain ⟨q1, hq1⟩ : ∃ q1, q1 = Lib.indexByte [40, 41, 61] c := ⟨_, rfl⟩
  have g1 := (index_marks c).1
  rw [← hq1] at g1
  obtain ⟨q2, hq2⟩ : ∃ q2, q2 = Lib.indexByte [33, 60, 62] c := ⟨_, rfl⟩
  have g2 := (index_marks c).2
  rw [← hq2] at g2
  have HQ : Hid (∀ w', Calls Tryz.prog 36 #[.string ⟨#[40, 41, 61]⟩, .int .u8 (c.toNat : Int)] w' fun e w'' => e = .returned (fi q1) ∧ w' = w'') := Lib.hid (fun w' => by rw [hq1]; exact indexIn_any [40, 41, 61] c w')
  have HQ2 : Hid (∀ w', Calls Tryz.prog 36 #[.string ⟨#[33, 60, 62]⟩, .int .u8 (c.toNat : Int)] w' fun e w'' => e = .returned (fi q2) ∧ w' = w'') := Lib.hid (fun w' => by rw [hq2]; exact indexIn_any [33, 60, 62] c w')
  have hm1 : ¬ (c.toNat = 40 ∨ c.toNat = 41 ∨ c.toNat = 61) := by omega
  rw [decide_eq_false hm1] at g1
  rw [decide_eq_true hm] at g2
  clear hm1
  have hl2 : i + 1 < s.length := (List.getElem?_eq_some_iff.1 hc2).1
  have g3 : decide ((i : Int) + 1 < (s.length : Int)) = true := by simp; omega
  have g4 : ((c2.toNat : Int) == 61) = true := by rw [beq_iff_eq]; omega
  have hw2 : IntKind.i64.wrap ((i : Int) + 1 + 1) = (i : Int) + 1 + 1 := IntWalk.i64_in _ (by omega)
  have HC2 := Lib.hid hc2
  clear h1 h2 hm hq1 hq2 hc2 h61
  go_enter Tryz.func16, Tryz.ntmps16
  (try dsimp only); (repeat (first | (first | (go_at_call 29; (first | (with_reducible refine (HB.out _ (M.at_ pk 0 _ rfl)).mono ?_) | (with_reducible refine (HR.out _ (M.at_ pk 0 _ rfl)).mono ?_)); rintro _ w1 ⟨rfl, rfl⟩; dsimp only) | ((with_reducible refine on_store ?_); refine xsA M ?_; clear M; intro w' M; (try simp only [List.take_succ_cons, List.take_zero, List.length_cons, List.length_nil, Nat.reduceAdd, List.drop_succ_cons, List.drop_zero, List.drop_nil, List.cons_append, List.nil_append] at M)) | ((with_reducible refine on_indexT ?_); refine wp_indexT _ _ _ rfl Tryz.underlying9 s rfl _ i rfl c HC.out ?_; (first | ((with_reducible refine fastK Tryz.prog rfl ?_); go_big_move) | (with_reducible refine fastN rfl ?_) | skip)) | ((with_reducible refine on_indexT ?_); refine wp_indexT _ _ _ rfl Tryz.underlying9 s rfl _ (i + 1) (by first | rfl | (simp; done)) c2 HC2.out ?_; (first | ((with_reducible refine fastK Tryz.prog rfl ?_); go_big_move) | (with_reducible refine fastN rfl ?_) | skip)) | (go_at_call 31; (with_reducible refine (HS.out _).mono ?_); rintro _ w1 ⟨rfl, rfl⟩; dsimp only) | (go_at_call 33; (with_reducible refine (HD.out _).mono ?_); rintro _ w1 ⟨rfl, rfl⟩; dsimp only) | (go_at_call 36; (first | (with_reducible refine (HQ.out _).mono ?_) | (with_reducible refine (HQ2.out _).mono ?_)); rintro _ w1 ⟨rfl, rfl⟩; dsimp only) | ((with_reducible refine on_cutT ?_); refine wp_cutT _ _ _ _ rfl Tryz.underlying9 s rfl _ _ i (i + 1 + 1) rfl (by first | rfl | (simp; done) | (simp; omega)) (by omega) (by omega) _ rfl ?_; (first | ((with_reducible refine fastK Tryz.prog rfl ?_); go_big_move) | (with_reducible refine fastN rfl ?_) | skip)) | ((with_reducible refine wl_g ?_); first | go_big_want | go_skip | ((with_reducible refine wl_off (by kernel_rfl) ?_); (first | ((with_reducible refine fastK Tryz.prog rfl ?_); go_big_move) | (with_reducible refine fastN rfl ?_) | skip))) | ((with_reducible refine on_load ?_); (first | refine xl1 M ?_ | refine xlN M ?_); go_big_move) | ((with_reducible refine on_store ?_); (first | refine xs1 M ?_ | refine xsN M ?_); clear M; intro w' M; (try simp only [List.set_cons_zero, List.set_cons_succ] at M))) | go_values | go_skip | go_guarded | go_step | go_upon))
  exact ret_n0 rfl rfl ⟨rfl, M⟩
set_option maxRecDepth 100000 in
set_option maxHeartbeats 800000 in
theorem next_mark2_end (s : List UInt8) (hs : s.length ≤ 1048576) (p : Nat) (hp : p ≤ s.length) (i : Nat) (hi : startOf s p = i) (c : UInt8) (hc : s[i]? = some c) (h1 : isSmall c = false) (h2 : isDigit c = false) (hm : c.toNat = 33 ∨ c.toNat = 60 ∨ c.toNat = 62) (hend : s.length ≤ i + 1) (h33 : c.toNat ≠ 33) {S : Nat → Prop} {g : Nat} {k0 t0 d : Int} {ts : List UInt8} {w : World} (M : Mem S w [rd g s p k0 t0 ts d] w) :
    Calls Tryz.prog 16 #[.pointer (some ⟨g, 0, none⟩)] w fun e w' => e = .returned (.tuple #[]) ∧ Mem S w [rd g s ((i + 1 : Nat) : Int) 4 i ((s.drop i).take (i + 1 - i)) d] w' := by
  have HB : Hid (∀ w', w'.cell? ⟨g, 0, none⟩ = some (str s) → Calls Tryz.prog 29 #[.pointer (some ⟨g, 0, none⟩), fi p, .func (.func 30) #[] #[]] w' fun e w'' => e = .returned (fi i) ∧ w' = w'') := Lib.hid (fun w' hc => by rw [← hi]; exact row_blank s hs g p hp w' hc)
  clear hi
  have hlt : i < s.length := (List.getElem?_eq_some_iff.1 hc).1
  have he2 : ((i : Int) == (s.length : Int)) = false := by rw [beq_eq_false_iff_ne]; omega
  have hw1 : IntKind.i64.wrap ((i : Int) + 1) = (i : Int) + 1 := IntWalk.i64_in _ (by omega)
  have hc256 : c.toNat < 256 := c.toNat_lt
  have HC := Lib.hid hc
  clear hc
  have HS : Hid (∀ w', Calls Tryz.prog 31 #[.int .u8 (c.toNat : Int)] w' fun e w'' => e = .returned (.bool false) ∧ w' = w'') := Lib.hid (fun w' => by rw [← h1]; exact small_any c w')
  have HD : Hid (∀ w', Calls Tryz.prog 33 #[.int .u8 (c.toNat : Int)] w' fun e w'' => e = .returned (.bool false) ∧ w' = w'') := Lib.hid (fun w' => by rw [← h2]; exact digit_any c w')
  have n45 : ((c.toNat : Int) == 45) = false := by rw [beq_eq_false_iff_ne]; omega
  have n34 : ((c.toNat : Int) == 34) = false := by rw [beq_eq_false_iff_ne]; omega
  obtain ⟨q1, hq1⟩ : ∃ q1, q1 = Lib.indexByte [40, 41, 61] c := ⟨_, rfl⟩
  have g1 := (index_marks c).1
  rw [← hq1] at g1
  obtain ⟨q2, hq2⟩ : ∃ q2, q2 = Lib.indexByte [33, 60, 62] c := ⟨_, rfl⟩
  have g2 := (index_marks c).2
  rw [← hq2] at g2
  have HQ : Hid (∀ w', Calls Tryz.prog 36 #[.string ⟨#[40, 41, 61]⟩, .int .u8 (c.toNat : Int)] w' fun e w'' => e = .returned (fi q1) ∧ w' = w'') := Lib.hid (fun w' => by rw [hq1]; exact indexIn_any [40, 41, 61] c w')
  have HQ2 : Hid (∀ w', Calls Tryz.prog 36 #[.string ⟨#[33, 60, 62]⟩, .int .u8 (c.toNat : Int)] w' fun e w'' => e = .returned (fi q2) ∧ w' = w'') := Lib.hid (fun w' => by rw [hq2]; exact indexIn_any [33, 60, 62] c w')
  have hm1 : ¬ (c.toNat = 40 ∨ c.toNat = 41 ∨ c.toNat = 61) := by omega
  rw [decide_eq_false hm1] at g1
  rw [decide_eq_true hm] at g2
  clear hm1
  have g3 : decide ((i : Int) + 1 < (s.length : Int)) = false := by simp; omega
  have g5 : ((c.toNat : Int) == 33) = false := by rw [beq_eq_false_iff_ne]; omega
  clear h1 h2 hm hq1 hq2 h33
  go_enter Tryz.func16, Tryz.ntmps16
  (try dsimp only); (repeat (first | (first | (go_at_call 29; (first | (with_reducible refine (HB.out _ (M.at_ pk 0 _ rfl)).mono ?_) | (with_reducible refine (HR.out _ (M.at_ pk 0 _ rfl)).mono ?_)); rintro _ w1 ⟨rfl, rfl⟩; dsimp only) | ((with_reducible refine on_store ?_); refine xsA M ?_; clear M; intro w' M; (try simp only [List.take_succ_cons, List.take_zero, List.length_cons, List.length_nil, Nat.reduceAdd, List.drop_succ_cons, List.drop_zero, List.drop_nil, List.cons_append, List.nil_append] at M)) | ((with_reducible refine on_indexT ?_); refine wp_indexT _ _ _ rfl Tryz.underlying9 s rfl _ i rfl c HC.out ?_; (first | ((with_reducible refine fastK Tryz.prog rfl ?_); go_big_move) | (with_reducible refine fastN rfl ?_) | skip)) | (go_at_call 31; (with_reducible refine (HS.out _).mono ?_); rintro _ w1 ⟨rfl, rfl⟩; dsimp only) | (go_at_call 33; (with_reducible refine (HD.out _).mono ?_); rintro _ w1 ⟨rfl, rfl⟩; dsimp only) | (go_at_call 36; (first | (with_reducible refine (HQ.out _).mono ?_) | (with_reducible refine (HQ2.out _).mono ?_)); rintro _ w1 ⟨rfl, rfl⟩; dsimp only) | ((with_reducible refine on_cutT ?_); refine wp_cutT _ _ _ _ rfl Tryz.underlying9 s rfl _ _ i (i + 1) rfl (by first | rfl | (simp; done) | (simp; omega)) (by omega) (by omega) _ rfl ?_; (first | ((with_reducible refine fastK Tryz.prog rfl ?_); go_big_move) | (with_reducible refine fastN rfl ?_) | skip)) | ((with_reducible refine wl_g ?_); first | go_big_want | go_skip | ((with_reducible refine wl_off (by kernel_rfl) ?_); (first | ((with_reducible refine fastK Tryz.prog rfl ?_); go_big_move) | (with_reducible refine fastN rfl ?_) | skip))) | ((with_reducible refine on_load ?_); (first | refine xl1 M ?_ | refine xlN M ?_); go_big_move) | ((with_reducible refine on_store ?_); (first | refine xs1 M ?_ | refine xsN M ?_); clear M; intro w' M; (try simp only [List.set_cons_zero, List.set_cons_succ] at M))) | go_values | go_skip | go_guarded | go_step | go_upon))
  exact ret_n0 rfl rfl ⟨rfl, M⟩
set_option maxRecDepth 100000 in
set_option maxHeartbeats 800000 in
theorem next_mark2_end_bad (s : List UInt8) (hs : s.length ≤ 1048576) (p : Nat) (hp : p ≤ s.length) (i : Nat) (hi : startOf s p = i) (c : UInt8) (hc : s[i]? = some c) (h1 : isSmall c = false) (h2 : isDigit c = false) (hend : s.length ≤ i + 1) (h33 : c.toNat = 33) {S : Nat → Prop} {g : Nat} {k0 t0 d : Int} {ts : List UInt8} {w : World} (M : Mem S w [rd g s p k0 t0 ts d] w) :
    Calls Tryz.prog 16 #[.pointer (some ⟨g, 0, none⟩)] w fun e w' => e = .panicked (faultAt i) ∧ ∃ cs, Mem S w [bx g 49 cs] w' := by
  have HB : Hid (∀ w', w'.cell? ⟨g, 0, none⟩ = some (str s) → Calls Tryz.prog 29 #[.pointer (some ⟨g, 0, none⟩), fi p, .func (.func 30) #[] #[]] w' fun e w'' => e = .returned (fi i) ∧ w' = w'') := Lib.hid (fun w' hc => by rw [← hi]; exact row_blank s hs g p hp w' hc)
  clear hi
  have hm : c.toNat = 33 ∨ c.toNat = 60 ∨ c.toNat = 62 := .inl h33
  have hlt : i < s.length := (List.getElem?_eq_some_iff.1 hc).1
  have he2 : ((i : Int) == (s.length : Int)) = false := by rw [beq_eq_false_iff_ne]; omega
  have hw1 : IntKind.i64.wrap ((i : Int) + 1) = (i : Int) + 1 := IntWalk.i64_in _ (by omega)
  have hc256 : c.toNat < 256 := c.toNat_lt
  have HC := Lib.hid hc
  clear hc
  have HS : Hid (∀ w', Calls Tryz.prog 31 #[.int .u8 (c.toNat : Int)] w' fun e w'' => e = .returned (.bool false) ∧ w' = w'') := Lib.hid (fun w' => by rw [← h1]; exact small_any c w')
  have HD : Hid (∀ w', Calls Tryz.prog 33 #[.int .u8 (c.toNat : Int)] w' fun e w'' => e = .returned (.bool false) ∧ w' = w'') := Lib.hid (fun w' => by rw [← h2]; exact digit_any c w')
  have n45 : ((c.toNat : Int) == 45) = false := by rw [beq_eq_false_iff_ne]; omega
  have n34 : ((c.toNat : Int) == 34) = false := by rw [beq_eq_false_iff_ne]; omega
  obtain ⟨q1, hq1⟩ : ∃ q1, q1 = Lib.indexByte [40, 41, 61] c := ⟨_, rfl⟩
  have g1 := (index_marks c).1
  rw [← hq1] at g1
  obtain ⟨q2, hq2⟩ : ∃ q2, q2 = Lib.indexByte [33, 60, 62] c := ⟨_, rfl⟩
  have g2 := (index_marks c).2
  rw [← hq2] at g2
  have HQ : Hid (∀ w', Calls Tryz.prog 36 #[.string ⟨#[40, 41, 61]⟩, .int .u8 (c.toNat : Int)] w' fun e w'' => e = .returned (fi q1) ∧ w' = w'') := Lib.hid (fun w' => by rw [hq1]; exact indexIn_any [40, 41, 61] c w')
  have HQ2 : Hid (∀ w', Calls Tryz.prog 36 #[.string ⟨#[33, 60, 62]⟩, .int .u8 (c.toNat : Int)] w' fun e w'' => e = .returned (fi q2) ∧ w' = w'') := Lib.hid (fun w' => by rw [hq2]; exact indexIn_any [33, 60, 62] c w')
  have hm1 : ¬ (c.toNat = 40 ∨ c.toNat = 41 ∨ c.toNat = 61) := by omega
  rw [decide_eq_false hm1] at g1
  rw [decide_eq_true hm] at g2
  clear hm1
  have g3 : decide ((i : Int) + 1 < (s.length : Int)) = false := by simp; omega
  have g5 : ((c.toNat : Int) == 33) = true := by rw [beq_iff_eq]; omega
  clear h1 h2 hm hq1 hq2 h33
  go_enter Tryz.func16, Tryz.ntmps16
  (try dsimp only); (repeat (first | (first | (go_at_call 29; (first | (with_reducible refine (HB.out _ (M.at_ pk 0 _ rfl)).mono ?_) | (with_reducible refine (HR.out _ (M.at_ pk 0 _ rfl)).mono ?_)); rintro _ w1 ⟨rfl, rfl⟩; dsimp only) | ((with_reducible refine on_store ?_); refine xsA M ?_; clear M; intro w' M; (try simp only [List.take_succ_cons, List.take_zero, List.length_cons, List.length_nil, Nat.reduceAdd, List.drop_succ_cons, List.drop_zero, List.drop_nil, List.cons_append, List.nil_append] at M)) | ((with_reducible refine on_indexT ?_); refine wp_indexT _ _ _ rfl Tryz.underlying9 s rfl _ i rfl c HC.out ?_; (first | ((with_reducible refine fastK Tryz.prog rfl ?_); go_big_move) | (with_reducible refine fastN rfl ?_) | skip)) | (go_at_call 31; (with_reducible refine (HS.out _).mono ?_); rintro _ w1 ⟨rfl, rfl⟩; dsimp only) | (go_at_call 33; (with_reducible refine (HD.out _).mono ?_); rintro _ w1 ⟨rfl, rfl⟩; dsimp only) | (go_at_call 36; (first | (with_reducible refine (HQ.out _).mono ?_) | (with_reducible refine (HQ2.out _).mono ?_)); rintro _ w1 ⟨rfl, rfl⟩; dsimp only) | ((with_reducible refine wl_g ?_); first | go_big_want | go_skip | ((with_reducible refine wl_off (by kernel_rfl) ?_); (first | ((with_reducible refine fastK Tryz.prog rfl ?_); go_big_move) | (with_reducible refine fastN rfl ?_) | skip))) | ((with_reducible refine on_load ?_); (first | refine xl1 M ?_ | refine xlN M ?_); go_big_move) | ((with_reducible refine on_store ?_); (first | refine xs1 M ?_ | refine xsN M ?_); clear M; intro w' M; (try simp only [List.set_cons_zero, List.set_cons_succ] at M))) | go_values | go_skip | go_guarded | go_step | go_upon))
  exact ⟨rfl, rfl, _, M⟩
set_option maxRecDepth 100000 in
set_option maxHeartbeats 800000 in
theorem next_mark2_other (s : List UInt8) (hs : s.length ≤ 1048576) (p : Nat) (hp : p ≤ s.length) (i : Nat) (hi : startOf s p = i) (c : UInt8) (hc : s[i]? = some c) (h1 : isSmall c = false) (h2 : isDigit c = false) (hm : c.toNat = 33 ∨ c.toNat = 60 ∨ c.toNat = 62) (c2 : UInt8) (hc2 : s[i + 1]? = some c2) (h61 : c2.toNat ≠ 61) (h33 : c.toNat ≠ 33) {S : Nat → Prop} {g : Nat} {k0 t0 d : Int} {ts : List UInt8} {w : World} (M : Mem S w [rd g s p k0 t0 ts d] w) :
    Calls Tryz.prog 16 #[.pointer (some ⟨g, 0, none⟩)] w fun e w' => e = .returned (.tuple #[]) ∧ Mem S w [rd g s ((i + 1 : Nat) : Int) 4 i ((s.drop i).take (i + 1 - i)) d] w' := by
  have HB : Hid (∀ w', w'.cell? ⟨g, 0, none⟩ = some (str s) → Calls Tryz.prog 29 #[.pointer (some ⟨g, 0, none⟩), fi p, .func (.func 30) #[] #[]] w' fun e w'' => e = .returned (fi i) ∧ w' = w'') := Lib.hid (fun w' hc => by rw [← hi]; exact row_blank s hs g p hp w' hc)
  clear hi
  have hlt : i < s.length := (List.getElem?_eq_some_iff.1 hc).1
  have he2 : ((i : Int) == (s.length : Int)) = false := by rw [beq_eq_false_iff_ne]; omega
  have hw1 : IntKind.i64.wrap ((i : Int) + 1) = (i : Int) + 1 := IntWalk.i64_in _ (by omega)
  have hc256 : c.toNat < 256 := c.toNat_lt
  have HC := Lib.hid hc
  clear hc
  have HS : Hid (∀ w', Calls Tryz.prog 31 #[.int .u8 (c.toNat : Int)] w' fun e w'' => e = .returned (.bool false) ∧ w' = w'') := Lib.hid (fun w' => by rw [← h1]; exact small_any c w')
  have HD : Hid (∀ w', Calls Tryz.prog 33 #[.int .u8 (c.toNat : Int)] w' fun e w'' => e = .returned (.bool false) ∧ w' = w'') := Lib.hid (fun w' => by rw [← h2]; exact digit_any c w')
  have n45 : ((c.toNat : Int) == 45) = false := by rw [beq_eq_false_iff_ne]; omega
  have n34 : ((c.toNat : Int) == 34) = false := by rw [beq_eq_false_iff_ne]; omega
  obtain ⟨q1, hq1⟩ : ∃ q1, q1 = Lib.indexByte [40, 41, 61] c := ⟨_, rfl⟩
  have g1 := (index_marks c).1
  rw [← hq1] at g1
  obtain ⟨q2, hq2⟩ : ∃ q2, q2 = Lib.indexByte [33, 60, 62] c := ⟨_, rfl⟩
  have g2 := (index_marks c).2
  rw [← hq2] at g2
  have HQ : Hid (∀ w', Calls Tryz.prog 36 #[.string ⟨#[40, 41, 61]⟩, .int .u8 (c.toNat : Int)] w' fun e w'' => e = .returned (fi q1) ∧ w' = w'') := Lib.hid (fun w' => by rw [hq1]; exact indexIn_any [40, 41, 61] c w')
  have HQ2 : Hid (∀ w', Calls Tryz.prog 36 #[.string ⟨#[33, 60, 62]⟩, .int .u8 (c.toNat : Int)] w' fun e w'' => e = .returned (fi q2) ∧ w' = w'') := Lib.hid (fun w' => by rw [hq2]; exact indexIn_any [33, 60, 62] c w')
  have hm1 : ¬ (c.toNat = 40 ∨ c.toNat = 41 ∨ c.toNat = 61) := by omega
  rw [decide_eq_false hm1] at g1
  rw [decide_eq_true hm] at g2
  clear hm1
  have hl2 : i + 1 < s.length := (List.getElem?_eq_some_iff.1 hc2).1
  have g3 : decide ((i : Int) + 1 < (s.length : Int)) = true := by simp; omega
  have g4 : ((c2.toNat : Int) == 61) = false := by rw [beq_eq_false_iff_ne]; omega
  have HC2 := Lib.hid hc2
  clear hc2 h61
  have g5 : ((c.toNat : Int) == 33) = false := by rw [beq_eq_false_iff_ne]; omega
  clear h1 h2 hm hq1 hq2 h33
  go_enter Tryz.func16, Tryz.ntmps16
  (try dsimp only); (repeat (first | (first | (go_at_call 29; (first | (with_reducible refine (HB.out _ (M.at_ pk 0 _ rfl)).mono ?_) | (with_reducible refine (HR.out _ (M.at_ pk 0 _ rfl)).mono ?_)); rintro _ w1 ⟨rfl, rfl⟩; dsimp only) | ((with_reducible refine on_store ?_); refine xsA M ?_; clear M; intro w' M; (try simp only [List.take_succ_cons, List.take_zero, List.length_cons, List.length_nil, Nat.reduceAdd, List.drop_succ_cons, List.drop_zero, List.drop_nil, List.cons_append, List.nil_append] at M)) | ((with_reducible refine on_indexT ?_); refine wp_indexT _ _ _ rfl Tryz.underlying9 s rfl _ i rfl c HC.out ?_; (first | ((with_reducible refine fastK Tryz.prog rfl ?_); go_big_move) | (with_reducible refine fastN rfl ?_) | skip)) | ((with_reducible refine on_indexT ?_); refine wp_indexT _ _ _ rfl Tryz.underlying9 s rfl _ (i + 1) (by first | rfl | (simp; done)) c2 HC2.out ?_; (first | ((with_reducible refine fastK Tryz.prog rfl ?_); go_big_move) | (with_reducible refine fastN rfl ?_) | skip)) | (go_at_call 31; (with_reducible refine (HS.out _).mono ?_); rintro _ w1 ⟨rfl, rfl⟩; dsimp only) | (go_at_call 33; (with_reducible refine (HD.out _).mono ?_); rintro _ w1 ⟨rfl, rfl⟩; dsimp only) | (go_at_call 36; (first | (with_reducible refine (HQ.out _).mono ?_) | (with_reducible refine (HQ2.out _).mono ?_)); rintro _ w1 ⟨rfl, rfl⟩; dsimp only) | ((with_reducible refine on_cutT ?_); refine wp_cutT _ _ _ _ rfl Tryz.underlying9 s rfl _ _ i (i + 1) rfl (by first | rfl | (simp; done) | (simp; omega)) (by omega) (by omega) _ rfl ?_; (first | ((with_reducible refine fastK Tryz.prog rfl ?_); go_big_move) | (with_reducible refine fastN rfl ?_) | skip)) | ((with_reducible refine wl_g ?_); first | go_big_want | go_skip | ((with_reducible refine wl_off (by kernel_rfl) ?_); (first | ((with_reducible refine fastK Tryz.prog rfl ?_); go_big_move) | (with_reducible refine fastN rfl ?_) | skip))) | ((with_reducible refine on_load ?_); (first | refine xl1 M ?_ | refine xlN M ?_); go_big_move) | ((with_reducible refine on_store ?_); (first | refine xs1 M ?_ | refine xsN M ?_); clear M; intro w' M; (try simp only [List.set_cons_zero, List.set_cons_succ] at M))) | go_values | go_skip | go_guarded | go_step | go_upon))
  exact ret_n0 rfl rfl ⟨rfl, M⟩
set_option maxRecDepth 100000 in
set_option maxHeartbeats 800000 in
theorem next_mark2_other_bad (s : List UInt8) (hs : s.length ≤ 1048576) (p : Nat) (hp : p ≤ s.length) (i : Nat) (hi : startOf s p = i) (c : UInt8) (hc : s[i]? = some c) (h1 : isSmall c = false) (h2 : isDigit c = false) (c2 : UInt8) (hc2 : s[i + 1]? = some c2) (h61 : c2.toNat ≠ 61) (h33 : c.toNat = 33) {S : Nat → Prop} {g : Nat} {k0 t0 d : Int} {ts : List UInt8} {w : World} (M : Mem S w [rd g s p k0 t0 ts d] w) :
    Calls Tryz.prog 16 #[.pointer (some ⟨g, 0, none⟩)] w fun e w' => e = .panicked (faultAt i) ∧ ∃ cs, Mem S w [bx g 49 cs] w' := by
  have HB : Hid (∀ w', w'.cell? ⟨g, 0, none⟩ = some (str s) → Calls Tryz.prog 29 #[.pointer (some ⟨g, 0, none⟩), fi p, .func (.func 30) #[] #[]] w' fun e w'' => e = .returned (fi i) ∧ w' = w'') := Lib.hid (fun w' hc => by rw [← hi]; exact row_blank s hs g p hp w' hc)
  clear hi
  have hm : c.toNat = 33 ∨ c.toNat = 60 ∨ c.toNat = 62 := .inl h33
  have hlt : i < s.length := (List.getElem?_eq_some_iff.1 hc).1
  have he2 : ((i : Int) == (s.length : Int)) = false := by rw [beq_eq_false_iff_ne]; omega
  have hw1 : IntKind.i64.wrap ((i : Int) + 1) = (i : Int) + 1 := IntWalk.i64_in _ (by omega)
  have hc256 : c.toNat < 256 := c.toNat_lt
  have HC := Lib.hid hc
  clear hc
  have HS : Hid (∀ w', Calls Tryz.prog 31 #[.int .u8 (c.toNat : Int)] w' fun e w'' => e = .returned (.bool false) ∧ w' = w'') := Lib.hid (fun w' => by rw [← h1]; exact small_any c w')
  have HD : Hid (∀ w', Calls Tryz.prog 33 #[.int .u8 (c.toNat : Int)] w' fun e w'' => e = .returned (.bool false) ∧ w' = w'') := Lib.hid (fun w' => by rw [← h2]; exact digit_any c w')
  have n45 : ((c.toNat : Int) == 45) = false := by rw [beq_eq_false_iff_ne]; omega
  have n34 : ((c.toNat : Int) == 34) = false := by rw [beq_eq_false_iff_ne]; omega
  obtain ⟨q1, hq1⟩ : ∃ q1, q1 = Lib.indexByte [40, 41, 61] c := ⟨_, rfl⟩
  have g1 := (index_marks c).1
  rw [← hq1] at g1
  obtain ⟨q2, hq2⟩ : ∃ q2, q2 = Lib.indexByte [33, 60, 62] c := ⟨_, rfl⟩
  have g2 := (index_marks c).2
  rw [← hq2] at g2
  have HQ : Hid (∀ w', Calls Tryz.prog 36 #[.string ⟨#[40, 41, 61]⟩, .int .u8 (c.toNat : Int)] w' fun e w'' => e = .returned (fi q1) ∧ w' = w'') := Lib.hid (fun w' => by rw [hq1]; exact indexIn_any [40, 41, 61] c w')
  have HQ2 : Hid (∀ w', Calls Tryz.prog 36 #[.string ⟨#[33, 60, 62]⟩, .int .u8 (c.toNat : Int)] w' fun e w'' => e = .returned (fi q2) ∧ w' = w'') := Lib.hid (fun w' => by rw [hq2]; exact indexIn_any [33, 60, 62] c w')
  have hm1 : ¬ (c.toNat = 40 ∨ c.toNat = 41 ∨ c.toNat = 61) := by omega
  rw [decide_eq_false hm1] at g1
  rw [decide_eq_true hm] at g2
  clear hm1
  have hl2 : i + 1 < s.length := (List.getElem?_eq_some_iff.1 hc2).1
  have g3 : decide ((i : Int) + 1 < (s.length : Int)) = true := by simp; omega
  have g4 : ((c2.toNat : Int) == 61) = false := by rw [beq_eq_false_iff_ne]; omega
  have HC2 := Lib.hid hc2
  clear hc2 h61
  have g5 : ((c.toNat : Int) == 33) = true := by rw [beq_iff_eq]; omega
  clear h1 h2 hm hq1 hq2 h33
  go_enter Tryz.func16, Tryz.ntmps16
  (try dsimp only); (repeat (first | (first | (go_at_call 29; (first | (with_reducible refine (HB.out _ (M.at_ pk 0 _ rfl)).mono ?_) | (with_reducible refine (HR.out _ (M.at_ pk 0 _ rfl)).mono ?_)); rintro _ w1 ⟨rfl, rfl⟩; dsimp only) | ((with_reducible refine on_store ?_); refine xsA M ?_; clear M; intro w' M; (try simp only [List.take_succ_cons, List.take_zero, List.length_cons, List.length_nil, Nat.reduceAdd, List.drop_succ_cons, List.drop_zero, List.drop_nil, List.cons_append, List.nil_append] at M)) | ((with_reducible refine on_indexT ?_); refine wp_indexT _ _ _ rfl Tryz.underlying9 s rfl _ i rfl c HC.out ?_; (first | ((with_reducible refine fastK Tryz.prog rfl ?_); go_big_move) | (with_reducible refine fastN rfl ?_) | skip)) | ((with_reducible refine on_indexT ?_); refine wp_indexT _ _ _ rfl Tryz.underlying9 s rfl _ (i + 1) (by first | rfl | (simp; done)) c2 HC2.out ?_; (first | ((with_reducible refine fastK Tryz.prog rfl ?_); go_big_move) | (with_reducible refine fastN rfl ?_) | skip)) | (go_at_call 31; (with_reducible refine (HS.out _).mono ?_); rintro _ w1 ⟨rfl, rfl⟩; dsimp only) | (go_at_call 33; (with_reducible refine (HD.out _).mono ?_); rintro _ w1 ⟨rfl, rfl⟩; dsimp only) | (go_at_call 36; (first | (with_reducible refine (HQ.out _).mono ?_) | (with_reducible refine (HQ2.out _).mono ?_)); rintro _ w1 ⟨rfl, rfl⟩; dsimp only) | ((with_reducible refine wl_g ?_); first | go_big_want | go_skip | ((with_reducible refine wl_off (by kernel_rfl) ?_); (first | ((with_reducible refine fastK Tryz.prog rfl ?_); go_big_move) | (with_reducible refine fastN rfl ?_) | skip))) | ((with_reducible refine on_load ?_); (first | refine xl1 M ?_ | refine xlN M ?_); go_big_move) | ((with_reducible refine on_store ?_); (first | refine xs1 M ?_ | refine xsN M ?_); clear M; intro w' M; (try simp only [List.set_cons_zero, List.set_cons_succ] at M))) | go_values | go_skip | go_guarded | go_step | go_upon))
  exact ⟨rfl, rfl, _, M⟩
set_option maxRecDepth 100000 in
set_option maxHeartbeats 800000 in
theorem next_none (s : List UInt8) (hs : s.length ≤ 1048576) (p : Nat) (hp : p ≤ s.length) (i : Nat) (hi : startOf s p = i) (c : UInt8) (hc : s[i]? = some c) (h1 : isSmall c = false) (h2 : isDigit c = false) (h45 : c.toNat ≠ 45) (h34 : c.toNat ≠ 34) (hm1 : ¬ (c.toNat = 40 ∨ c.toNat = 41 ∨ c.toNat = 61)) (hm2 : ¬ (c.toNat = 33 ∨ c.toNat = 60 ∨ c.toNat = 62)) {S : Nat → Prop} {g : Nat} {k0 t0 d : Int} {ts : List UInt8} {w : World} (M : Mem S w [rd g s p k0 t0 ts d] w) :
    Calls Tryz.prog 16 #[.pointer (some ⟨g, 0, none⟩)] w fun e w' => e = .panicked (faultAt i) ∧ ∃ cs, Mem S w [bx g 49 cs] w' := by
  have HB : Hid (∀ w', w'.cell? ⟨g, 0, none⟩ = some (str s) → Calls Tryz.prog 29 #[.pointer (some ⟨g, 0, none⟩), fi p, .func (.func 30) #[] #[]] w' fun e w'' => e = .returned (fi i) ∧ w' = w'') := Lib.hid (fun w' hc => by rw [← hi]; exact row_blank s hs g p hp w' hc)
  clear hi
  have hlt : i < s.length := (List.getElem?_eq_some_iff.1 hc).1
  have he2 : ((i : Int) == (s.length : Int)) = false := by rw [beq_eq_false_iff_ne]; omega
  have hw1 : IntKind.i64.wrap ((i : Int) + 1) = (i : Int) + 1 := IntWalk.i64_in _ (by omega)
  have hc256 : c.toNat < 256 := c.toNat_lt
  have HC := Lib.hid hc
  clear hc
  have HS : Hid (∀ w', Calls Tryz.prog 31 #[.int .u8 (c.toNat : Int)] w' fun e w'' => e = .returned (.bool false) ∧ w' = w'') := Lib.hid (fun w' => by rw [← h1]; exact small_any c w')
  have HD : Hid (∀ w', Calls Tryz.prog 33 #[.int .u8 (c.toNat : Int)] w' fun e w'' => e = .returned (.bool false) ∧ w' = w'') := Lib.hid (fun w' => by rw [← h2]; exact digit_any c w')
  have n45 : ((c.toNat : Int) == 45) = false := by rw [beq_eq_false_iff_ne]; omega
  have n34 : ((c.toNat : Int) == 34) = false := by rw [beq_eq_false_iff_ne]; omega
  obtain ⟨q1, hq1⟩ : ∃ q1, q1 = Lib.indexByte [40, 41, 61] c := ⟨_, rfl⟩
  have g1 := (index_marks c).1
  rw [← hq1] at g1
  obtain ⟨q2, hq2⟩ : ∃ q2, q2 = Lib.indexByte [33, 60, 62] c := ⟨_, rfl⟩
  have g2 := (index_marks c).2
  rw [← hq2] at g2
  have HQ : Hid (∀ w', Calls Tryz.prog 36 #[.string ⟨#[40, 41, 61]⟩, .int .u8 (c.toNat : Int)] w' fun e w'' => e = .returned (fi q1) ∧ w' = w'') := Lib.hid (fun w' => by rw [hq1]; exact indexIn_any [40, 41, 61] c w')
  have HQ2 : Hid (∀ w', Calls Tryz.prog 36 #[.string ⟨#[33, 60, 62]⟩, .int .u8 (c.toNat : Int)] w' fun e w'' => e = .returned (fi q2) ∧ w' = w'') := Lib.hid (fun w' => by rw [hq2]; exact indexIn_any [33, 60, 62] c w')
  rw [decide_eq_false hm1] at g1
  rw [decide_eq_false hm2] at g2
  clear h1 h2 h45 h34 hm1 hm2 hq1 hq2
  go_enter Tryz.func16, Tryz.ntmps16
  (try dsimp only); (repeat (first | (first | (go_at_call 29; (first | (with_reducible refine (HB.out _ (M.at_ pk 0 _ rfl)).mono ?_) | (with_reducible refine (HR.out _ (M.at_ pk 0 _ rfl)).mono ?_)); rintro _ w1 ⟨rfl, rfl⟩; dsimp only) | ((with_reducible refine on_store ?_); refine xsA M ?_; clear M; intro w' M; (try simp only [List.take_succ_cons, List.take_zero, List.length_cons, List.length_nil, Nat.reduceAdd, List.drop_succ_cons, List.drop_zero, List.drop_nil, List.cons_append, List.nil_append] at M)) | ((with_reducible refine on_indexT ?_); refine wp_indexT _ _ _ rfl Tryz.underlying9 s rfl _ i rfl c HC.out ?_; (first | ((with_reducible refine fastK Tryz.prog rfl ?_); go_big_move) | (with_reducible refine fastN rfl ?_) | skip)) | (go_at_call 31; (with_reducible refine (HS.out _).mono ?_); rintro _ w1 ⟨rfl, rfl⟩; dsimp only) | (go_at_call 33; (with_reducible refine (HD.out _).mono ?_); rintro _ w1 ⟨rfl, rfl⟩; dsimp only) | (go_at_call 36; (first | (with_reducible refine (HQ.out _).mono ?_) | (with_reducible refine (HQ2.out _).mono ?_)); rintro _ w1 ⟨rfl, rfl⟩; dsimp only) | ((with_reducible refine wl_g ?_); first | go_big_want | go_skip | ((with_reducible refine wl_off (by kernel_rfl) ?_); (first | ((with_reducible refine fastK Tryz.prog rfl ?_); go_big_move) | (with_reducible refine fastN rfl ?_) | skip))) | ((with_reducible refine on_load ?_); (first | refine xl1 M ?_ | refine xlN M ?_); go_big_move) | ((with_reducible refine on_store ?_); (first | refine xs1 M ?_ | refine xsN M ?_); clear M; intro w' M; (try simp only [List.set_cons_zero, List.set_cons_succ] at M))) | go_values | go_skip | go_guarded | go_step | go_upon))
  exact ⟨rfl, rfl, _, M⟩
end Go.Proofs.YtkblkdnihppmnaaGreatDoor
