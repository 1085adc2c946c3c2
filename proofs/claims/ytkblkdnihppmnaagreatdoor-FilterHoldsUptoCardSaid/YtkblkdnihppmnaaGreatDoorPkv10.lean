/- Parts of this work, one behind the other: FiltW3d. -/
import Derived.Test.YtkblkdnihppmnaaGreatDoorPkv6
/- Filters (layer 21): the program's tokens (walk, third part, d: next; printed by gen_w3.py). -/
namespace Go.Proofs.YtkblkdnihppmnaaGreatDoor
set_option linter.unusedSimpArgs false
set_option linter.unusedVariables false
open Go.RowKit Res Filt

set_option maxRecDepth 100000 in
set_option maxHeartbeats 800000 in
theorem next_quoted (s : List UInt8) (hs : s.length ≤ 1048576) (p : Nat) (hp : p ≤ s.length) (i : Nat) (hi : startOf s p = i) (c : UInt8) (hc : s[i]? = some c) (h1 : isSmall c = false) (h2 : isDigit c = false) (h34 : c.toNat = 34) (n : Nat) (hn : runLen notQuote (s.drop (i + 1)) = n) (hnl : n < (s.drop (i + 1)).length) (hn64 : n ≤ 64) {S : Nat → Prop} {g : Nat} {k0 t0 d : Int} {ts : List UInt8} {w : World} (M : Mem S w [rd g s p k0 t0 ts d] w) :
    Calls Tryz.prog 16 #[.pointer (some ⟨g, 0, none⟩)] w fun e w' => e = .returned (.tuple #[]) ∧ Mem S w [rd g s ((i + 1 + (n + 1) : Nat) : Int) 3 i ((s.drop i).take (i + 1 + (n + 1) - i)) d] w' := by
  have HB : Hid (∀ w', w'.cell? ⟨g, 0, none⟩ = some (str s) → Calls Tryz.prog 29 #[.pointer (some ⟨g, 0, none⟩), fi p, .func (.func 30) #[] #[]] w' fun e w'' => e = .returned (fi i) ∧ w' = w'') := Lib.hid (fun w' hc => by rw [← hi]; exact row_blank s hs g p hp w' hc)
  clear hi
  have hlt : i < s.length := (List.getElem?_eq_some_iff.1 hc).1
  have he2 : ((i : Int) == (s.length : Int)) = false := by rw [beq_eq_false_iff_ne]; omega
  have hw1 : IntKind.i64.wrap ((i : Int) + 1) = (i : Int) + 1 := IntWalk.i64_in _ (by omega)
  have hc256 : c.toNat < 256 := c.toNat_lt
  have HC := Lib.hid hc
  clear hc
  have HS : Hid (∀ w', Calls Tryz.prog 31 #[.int .u8 (c.toNat : Int)] w' fun e w'' => e = .returned (.bool false) ∧ w' = w'') := Lib.hid (fun w' => by rw [← h1]; exact small_any c w')
  have HD : Hid (∀ w', Calls Tryz.prog 33 #[.int .u8 (c.toNat : Int)] w' fun e w'' => e = .returned (.bool false) ∧ w' = w'') := Lib.hid (fun w' => by rw [← h2]; exact digit_any c w')
  have n45 : ((c.toNat : Int) == 45) = false := by rw [beq_eq_false_iff_ne]; omega
  have n34 : ((c.toNat : Int) == 34) = true := by rw [beq_iff_eq]; omega
  have HQ : Hid (∀ w', Calls Tryz.prog 36 #[str (s.drop (i + 1)), .int .u8 34] w' fun e w'' => e = .returned (fi n) ∧ w' = w'') := Lib.hid (fun w' => by
    have := indexQuote_any (s.drop (i + 1)) w'
    rwa [hn, if_pos hnl] at this)
  have hnl2 : i + 1 + (n + 1) ≤ s.length := by rw [List.length_drop] at hnl; omega
  have hw2 : IntKind.i64.wrap ((n : Int) + 1) = (n : Int) + 1 := IntWalk.i64_in _ (by omega)
  have hw3 : IntKind.i64.wrap ((i : Int) + 1 + ((n : Int) + 1)) = (i : Int) + 1 + ((n : Int) + 1) := IntWalk.i64_in _ (by omega)
  have g1 : decide ((n : Int) < 0) = false := decide_eq_false (by omega)
  have g2 : decide (64 < (n : Int)) = false := by simp; omega
  clear h1 h2 h34 hn hnl
  go_enter Tryz.func16, Tryz.ntmps16
  (try dsimp only); (repeat (first | (first | (go_at_call 29; (first | (with_reducible refine (HB.out _ (M.at_ pk 0 _ rfl)).mono ?_) | (with_reducible refine (HR.out _ (M.at_ pk 0 _ rfl)).mono ?_)); rintro _ w1 ⟨rfl, rfl⟩; dsimp only) | ((with_reducible refine on_store ?_); refine xsA M ?_; clear M; intro w' M; (try simp only [List.take_succ_cons, List.take_zero, List.length_cons, List.length_nil, Nat.reduceAdd, List.drop_succ_cons, List.drop_zero, List.drop_nil, List.cons_append, List.nil_append] at M)) | ((with_reducible refine on_indexT ?_); refine wp_indexT _ _ _ rfl Tryz.underlying9 s rfl _ i rfl c HC.out ?_; (first | ((with_reducible refine fastK Tryz.prog rfl ?_); go_big_move) | (with_reducible refine fastN rfl ?_) | skip)) | (go_at_call 31; (with_reducible refine (HS.out _).mono ?_); rintro _ w1 ⟨rfl, rfl⟩; dsimp only) | (go_at_call 33; (with_reducible refine (HD.out _).mono ?_); rintro _ w1 ⟨rfl, rfl⟩; dsimp only) | (go_at_call 36; (with_reducible refine (HQ.out _).mono ?_); rintro _ w1 ⟨rfl, rfl⟩; dsimp only) | ((with_reducible refine on_cutT ?_); refine wp_restT _ _ _ rfl Tryz.underlying9 s rfl _ (i + 1) (by first | rfl | (simp; done)) (by omega) _ rfl ?_; (first | ((with_reducible refine fastK Tryz.prog rfl ?_); go_big_move) | (with_reducible refine fastN rfl ?_) | skip)) | ((with_reducible refine on_cutT ?_); refine wp_cutT _ _ _ _ rfl Tryz.underlying9 s rfl _ _ i (i + 1 + (n + 1)) rfl (by first | rfl | (simp; done) | (simp; omega)) (by omega) (by omega) _ rfl ?_; (first | ((with_reducible refine fastK Tryz.prog rfl ?_); go_big_move) | (with_reducible refine fastN rfl ?_) | skip)) | ((with_reducible refine wl_g ?_); first | go_big_want | go_skip | ((with_reducible refine wl_off (by kernel_rfl) ?_); (first | ((with_reducible refine fastK Tryz.prog rfl ?_); go_big_move) | (with_reducible refine fastN rfl ?_) | skip))) | ((with_reducible refine on_load ?_); (first | refine xl1 M ?_ | refine xlN M ?_); go_big_move) | ((with_reducible refine on_store ?_); (first | refine xs1 M ?_ | refine xsN M ?_); clear M; intro w' M; (try simp only [List.set_cons_zero, List.set_cons_succ] at M))) | go_values | go_skip | go_guarded | go_step | go_upon))
  exact ret_n0 rfl rfl ⟨rfl, M⟩
set_option maxRecDepth 100000 in
set_option maxHeartbeats 800000 in
theorem next_quoted_none (s : List UInt8) (hs : s.length ≤ 1048576) (p : Nat) (hp : p ≤ s.length) (i : Nat) (hi : startOf s p = i) (c : UInt8) (hc : s[i]? = some c) (h1 : isSmall c = false) (h2 : isDigit c = false) (h34 : c.toNat = 34) (hnl : ¬ runLen notQuote (s.drop (i + 1)) < (s.drop (i + 1)).length) {S : Nat → Prop} {g : Nat} {k0 t0 d : Int} {ts : List UInt8} {w : World} (M : Mem S w [rd g s p k0 t0 ts d] w) :
    Calls Tryz.prog 16 #[.pointer (some ⟨g, 0, none⟩)] w fun e w' => e = .panicked (faultAt i) ∧ ∃ cs, Mem S w [bx g 49 cs] w' := by
  have HB : Hid (∀ w', w'.cell? ⟨g, 0, none⟩ = some (str s) → Calls Tryz.prog 29 #[.pointer (some ⟨g, 0, none⟩), fi p, .func (.func 30) #[] #[]] w' fun e w'' => e = .returned (fi i) ∧ w' = w'') := Lib.hid (fun w' hc => by rw [← hi]; exact row_blank s hs g p hp w' hc)
  clear hi
  have hlt : i < s.length := (List.getElem?_eq_some_iff.1 hc).1
  have he2 : ((i : Int) == (s.length : Int)) = false := by rw [beq_eq_false_iff_ne]; omega
  have hw1 : IntKind.i64.wrap ((i : Int) + 1) = (i : Int) + 1 := IntWalk.i64_in _ (by omega)
  have hc256 : c.toNat < 256 := c.toNat_lt
  have HC := Lib.hid hc
  clear hc
  have HS : Hid (∀ w', Calls Tryz.prog 31 #[.int .u8 (c.toNat : Int)] w' fun e w'' => e = .returned (.bool false) ∧ w' = w'') := Lib.hid (fun w' => by rw [← h1]; exact small_any c w')
  have HD : Hid (∀ w', Calls Tryz.prog 33 #[.int .u8 (c.toNat : Int)] w' fun e w'' => e = .returned (.bool false) ∧ w' = w'') := Lib.hid (fun w' => by rw [← h2]; exact digit_any c w')
  have n45 : ((c.toNat : Int) == 45) = false := by rw [beq_eq_false_iff_ne]; omega
  have n34 : ((c.toNat : Int) == 34) = true := by rw [beq_iff_eq]; omega
  have HQ : Hid (∀ w', Calls Tryz.prog 36 #[str (s.drop (i + 1)), .int .u8 34] w' fun e w'' => e = .returned (fi (-1)) ∧ w' = w'') := Lib.hid (fun w' => by
    have := indexQuote_any (s.drop (i + 1)) w'
    rwa [if_neg hnl] at this)
  clear h1 h2 h34 hnl
  go_enter Tryz.func16, Tryz.ntmps16
  (try dsimp only); (repeat (first | (first | (go_at_call 29; (first | (with_reducible refine (HB.out _ (M.at_ pk 0 _ rfl)).mono ?_) | (with_reducible refine (HR.out _ (M.at_ pk 0 _ rfl)).mono ?_)); rintro _ w1 ⟨rfl, rfl⟩; dsimp only) | ((with_reducible refine on_store ?_); refine xsA M ?_; clear M; intro w' M; (try simp only [List.take_succ_cons, List.take_zero, List.length_cons, List.length_nil, Nat.reduceAdd, List.drop_succ_cons, List.drop_zero, List.drop_nil, List.cons_append, List.nil_append] at M)) | ((with_reducible refine on_indexT ?_); refine wp_indexT _ _ _ rfl Tryz.underlying9 s rfl _ i rfl c HC.out ?_; (first | ((with_reducible refine fastK Tryz.prog rfl ?_); go_big_move) | (with_reducible refine fastN rfl ?_) | skip)) | (go_at_call 31; (with_reducible refine (HS.out _).mono ?_); rintro _ w1 ⟨rfl, rfl⟩; dsimp only) | (go_at_call 33; (with_reducible refine (HD.out _).mono ?_); rintro _ w1 ⟨rfl, rfl⟩; dsimp only) | (go_at_call 36; (with_reducible refine (HQ.out _).mono ?_); rintro _ w1 ⟨rfl, rfl⟩; dsimp only) | ((with_reducible refine on_cutT ?_); refine wp_restT _ _ _ rfl Tryz.underlying9 s rfl _ (i + 1) (by first | rfl | (simp; done)) (by omega) _ rfl ?_; (first | ((with_reducible refine fastK Tryz.prog rfl ?_); go_big_move) | (with_reducible refine fastN rfl ?_) | skip)) | ((with_reducible refine wl_g ?_); first | go_big_want | go_skip | ((with_reducible refine wl_off (by kernel_rfl) ?_); (first | ((with_reducible refine fastK Tryz.prog rfl ?_); go_big_move) | (with_reducible refine fastN rfl ?_) | skip))) | ((with_reducible refine on_load ?_); (first | refine xl1 M ?_ | refine xlN M ?_); go_big_move) | ((with_reducible refine on_store ?_); (first | refine xs1 M ?_ | refine xsN M ?_); clear M; intro w' M; (try simp only [List.set_cons_zero, List.set_cons_succ] at M))) | go_values | go_skip | go_guarded | go_step | go_upon))
  exact ⟨rfl, rfl, _, M⟩
set_option maxRecDepth 100000 in
set_option maxHeartbeats 800000 in
theorem next_quoted_long (s : List UInt8) (hs : s.length ≤ 1048576) (p : Nat) (hp : p ≤ s.length) (i : Nat) (hi : startOf s p = i) (c : UInt8) (hc : s[i]? = some c) (h1 : isSmall c = false) (h2 : isDigit c = false) (h34 : c.toNat = 34) (n : Nat) (hn : runLen notQuote (s.drop (i + 1)) = n) (hnl : n < (s.drop (i + 1)).length) (hn64 : ¬ n ≤ 64) {S : Nat → Prop} {g : Nat} {k0 t0 d : Int} {ts : List UInt8} {w : World} (M : Mem S w [rd g s p k0 t0 ts d] w) :
    Calls Tryz.prog 16 #[.pointer (some ⟨g, 0, none⟩)] w fun e w' => e = .panicked (faultAt i) ∧ ∃ cs, Mem S w [bx g 49 cs] w' := by
  have HB : Hid (∀ w', w'.cell? ⟨g, 0, none⟩ = some (str s) → Calls Tryz.prog 29 #[.pointer (some ⟨g, 0, none⟩), fi p, .func (.func 30) #[] #[]] w' fun e w'' => e = .returned (fi i) ∧ w' = w'') := Lib.hid (fun w' hc => by rw [← hi]; exact row_blank s hs g p hp w' hc)
  clear hi
  have hlt : i < s.length := (List.getElem?_eq_some_iff.1 hc).1
  have he2 : ((i : Int) == (s.length : Int)) = false := by rw [beq_eq_false_iff_ne]; omega
  have hw1 : IntKind.i64.wrap ((i : Int) + 1) = (i : Int) + 1 := IntWalk.i64_in _ (by omega)
  have hc256 : c.toNat < 256 := c.toNat_lt
  have HC := Lib.hid hc
  clear hc
  have HS : Hid (∀ w', Calls Tryz.prog 31 #[.int .u8 (c.toNat : Int)] w' fun e w'' => e = .returned (.bool false) ∧ w' = w'') := Lib.hid (fun w' => by rw [← h1]; exact small_any c w')
  have HD : Hid (∀ w', Calls Tryz.prog 33 #[.int .u8 (c.toNat : Int)] w' fun e w'' => e = .returned (.bool false) ∧ w' = w'') := Lib.hid (fun w' => by rw [← h2]; exact digit_any c w')
  have n45 : ((c.toNat : Int) == 45) = false := by rw [beq_eq_false_iff_ne]; omega
  have n34 : ((c.toNat : Int) == 34) = true := by rw [beq_iff_eq]; omega
  have HQ : Hid (∀ w', Calls Tryz.prog 36 #[str (s.drop (i + 1)), .int .u8 34] w' fun e w'' => e = .returned (fi n) ∧ w' = w'') := Lib.hid (fun w' => by
    have := indexQuote_any (s.drop (i + 1)) w'
    rwa [hn, if_pos hnl] at this)
  have g1 : decide ((n : Int) < 0) = false := decide_eq_false (by omega)
  have g2 : decide (64 < (n : Int)) = true := by simp; omega
  clear h1 h2 h34 hn hnl hn64
  go_enter Tryz.func16, Tryz.ntmps16
  (try dsimp only); (repeat (first | (first | (go_at_call 29; (first | (with_reducible refine (HB.out _ (M.at_ pk 0 _ rfl)).mono ?_) | (with_reducible refine (HR.out _ (M.at_ pk 0 _ rfl)).mono ?_)); rintro _ w1 ⟨rfl, rfl⟩; dsimp only) | ((with_reducible refine on_store ?_); refine xsA M ?_; clear M; intro w' M; (try simp only [List.take_succ_cons, List.take_zero, List.length_cons, List.length_nil, Nat.reduceAdd, List.drop_succ_cons, List.drop_zero, List.drop_nil, List.cons_append, List.nil_append] at M)) | ((with_reducible refine on_indexT ?_); refine wp_indexT _ _ _ rfl Tryz.underlying9 s rfl _ i rfl c HC.out ?_; (first | ((with_reducible refine fastK Tryz.prog rfl ?_); go_big_move) | (with_reducible refine fastN rfl ?_) | skip)) | (go_at_call 31; (with_reducible refine (HS.out _).mono ?_); rintro _ w1 ⟨rfl, rfl⟩; dsimp only) | (go_at_call 33; (with_reducible refine (HD.out _).mono ?_); rintro _ w1 ⟨rfl, rfl⟩; dsimp only) | (go_at_call 36; (with_reducible refine (HQ.out _).mono ?_); rintro _ w1 ⟨rfl, rfl⟩; dsimp only) | ((with_reducible refine on_cutT ?_); refine wp_restT _ _ _ rfl Tryz.underlying9 s rfl _ (i + 1) (by first | rfl | (simp; done)) (by omega) _ rfl ?_; (first | ((with_reducible refine fastK Tryz.prog rfl ?_); go_big_move) | (with_reducible refine fastN rfl ?_) | skip)) | ((with_reducible refine wl_g ?_); first | go_big_want | go_skip | ((with_reducible refine wl_off (by kernel_rfl) ?_); (first | ((with_reducible refine fastK Tryz.prog rfl ?_); go_big_move) | (with_reducible refine fastN rfl ?_) | skip))) | ((with_reducible refine on_load ?_); (first | refine xl1 M ?_ | refine xlN M ?_); go_big_move) | ((with_reducible refine on_store ?_); (first | refine xs1 M ?_ | refine xsN M ?_); clear M; intro w' M; (try simp only [List.set_cons_zero, List.set_cons_succ] at M))) | go_values | go_skip | go_guarded | go_step | go_upon))
  exact ⟨rfl, rfl, _, M⟩
set_option maxRecDepth 100000 in
set_option maxHeartbeats 800000 in
theorem next_mark1 (s : List UInt8) (hs : s.length ≤ 1048576) (p : Nat) (hp : p ≤ s.length) (i : Nat) (hi : startOf s p = i) (c : UInt8) (hc : s[i]? = some c) (h1 : isSmall c = false) (h2 : isDigit c = false) (hm : c.toNat = 40 ∨ c.toNat = 41 ∨ c.toNat = 61) {S : Nat → Prop} {g : Nat} {k0 t0 d : Int} {ts : List UInt8} {w : World} (M : Mem S w [rd g s p k0 t0 ts d] w) :
    Calls Tryz.prog 16 #[.pointer (some ⟨g, 0, none⟩)] w fun e w' => e = .returned (.tuple #[]) ∧ Mem S w [rd g s ((i + 1 : Nat) : Int) 4 i ((s.drop i).take (i + 1 - i)) d] w' := by
  have HB : Hid (∀ w', w'.cell? ⟨g, 0, none⟩ = some (str s) → Calls Tryz.prog 29 #[.pointer (some ⟨g, 0, none⟩), fi p, .func (.func 30) #[] #[]] w' fun e w'' => e = .returned (fi i) ∧ w' = w'') := Lib.hid (fun w' hc => by rw [← hi]; exact row_blank s hs g p hp w' hc)
  clear hi
  have hlt : i < s.length := (List.getElem?_eq_some_iff.1 hc).1
  have he2 : ((i : Int) == (s.length : Int)) = false := by rw [beq_eq_false_iff_ne]; omega
  have hw1 : IntKind.i64.wrap ((i : Int) + 1) = (i : Int) + 1 := IntWalk.i64_in _ (by omega)
  have hc256 : c.toNat < 256 := c.toNat_lt
  have HC := Lib.hid hc
  clear hc
  have HS : Hid (∀ w', Calls Tryz.prog 31 #[.int .u8 (c.toNat : Int)] w' fun e w'' => e = .returned (.bool false) ∧ w' = w'') := Lib.hid (fun w' => by rw [← h1]; exact small_any c w')
  have HD : Hid (∀ w', Calls Tryz.prog 33 #[.int .u8 (c.toNat : Int)] w' fun e w'' => e = .returned (.bool false) ∧ w' = w'') := Lib.hid (fun w' => by rw [← h2]; exact digit_any c w')
  have n45 : ((c.toNat : Int) == 45) = false := by rw [beq_eq_false_iff_ne]; omega
  have n34 : ((c.toNat : Int) == 34) = false := by rw [beq_eq_false_iff_ne]; omega
  obtain ⟨q1, hq1⟩ : ∃ q1, q1 = Lib.indexByte [40, 41, 61] c := ⟨_, rfl⟩
  have g1 := (index_marks c).1
  rw [← hq1] at g1
  have HQ : Hid (∀ w', Calls Tryz.prog 36 #[.string ⟨#[40, 41, 61]⟩, .int .u8 (c.toNat : Int)] w' fun e w'' => e = .returned (fi q1) ∧ w' = w'') := Lib.hid (fun w' => by rw [hq1]; exact indexIn_any [40, 41, 61] c w')
  rw [decide_eq_true hm] at g1
  clear h1 h2 hm hq1
  go_enter Tryz.func16, Tryz.ntmps16
  (try dsimp only); (repeat (first | (first | (go_at_call 29; (first | (with_reducible refine (HB.out _ (M.at_ pk 0 _ rfl)).mono ?_) | (with_reducible refine (HR.out _ (M.at_ pk 0 _ rfl)).mono ?_)); rintro _ w1 ⟨rfl, rfl⟩; dsimp only) | ((with_reducible refine on_store ?_); refine xsA M ?_; clear M; intro w' M; (try simp only [List.take_succ_cons, List.take_zero, List.length_cons, List.length_nil, Nat.reduceAdd, List.drop_succ_cons, List.drop_zero, List.drop_nil, List.cons_append, List.nil_append] at M)) | ((with_reducible refine on_indexT ?_); refine wp_indexT _ _ _ rfl Tryz.underlying9 s rfl _ i rfl c HC.out ?_; (first | ((with_reducible refine fastK Tryz.prog rfl ?_); go_big_move) | (with_reducible refine fastN rfl ?_) | skip)) | (go_at_call 31; (with_reducible refine (HS.out _).mono ?_); rintro _ w1 ⟨rfl, rfl⟩; dsimp only) | (go_at_call 33; (with_reducible refine (HD.out _).mono ?_); rintro _ w1 ⟨rfl, rfl⟩; dsimp only) | (go_at_call 36; (with_reducible refine (HQ.out _).mono ?_); rintro _ w1 ⟨rfl, rfl⟩; dsimp only) | ((with_reducible refine on_cutT ?_); refine wp_cutT _ _ _ _ rfl Tryz.underlying9 s rfl _ _ i (i + 1) rfl (by first | rfl | (simp; done) | (simp; omega)) (by omega) (by omega) _ rfl ?_; (first | ((with_reducible refine fastK Tryz.prog rfl ?_); go_big_move) | (with_reducible refine fastN rfl ?_) | skip)) | ((with_reducible refine wl_g ?_); first | go_big_want | go_skip | ((with_reducible refine wl_off (by kernel_rfl) ?_); (first | ((with_reducible refine fastK Tryz.prog rfl ?_); go_big_move) | (with_reducible refine fastN rfl ?_) | skip))) | ((with_reducible refine on_load ?_); (first | refine xl1 M ?_ | refine xlN M ?_); go_big_move) | ((with_reducible refine on_store ?_); (first | refine xs1 M ?_ | refine xsN M ?_); clear M; intro w' M; (try simp only [List.set_cons_zero, List.set_cons_succ] at M))) | go_values | go_skip | go_guarded | go_step | go_upon))
  exact ret_n0 rfl rfl ⟨rfl, M⟩
end Go.Proofs.YtkblkdnihppmnaaGreatDoor
