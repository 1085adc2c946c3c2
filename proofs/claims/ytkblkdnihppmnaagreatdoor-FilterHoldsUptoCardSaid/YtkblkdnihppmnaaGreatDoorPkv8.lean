/- Parts of this work, one behind the other: FiltW3b. -/
import Derived.Test.YtkblkdnihppmnaaGreatDoorPkv6
/- Filters (layer 21): the program's tokens (walk, third part, b: next; printed by gen_w3.py). -/
namespace Go.Proofs.YtkblkdnihppmnaaGreatDoor
set_option linter.unusedSimpArgs false
set_option linter.unusedVariables false
open Go.RowKit Res Filt

set_option maxRecDepth 100000 in
set_option maxHeartbeats 800000 in
theorem next_digit_no (s : List UInt8) (hs : s.length ≤ 1048576) (p : Nat) (hp : p ≤ s.length) (i : Nat) (hi : startOf s p = i) (c : UInt8) (hc : s[i]? = some c) (h1 : isSmall c = false) (h2 : isDigit c = true) (j : Nat) (hj : i + 1 + runLen isDigit (s.drop (i + 1)) = j) (hv : ∀ v, Lib.parseIntB 64 ((s.drop i).take (j - i)) ≠ .ok v) {S : Nat → Prop} {g : Nat} {k0 t0 d : Int} {ts : List UInt8} {w : World} (M : Mem S w [rd g s p k0 t0 ts d] w) (hNv : Nv w) (hS : ∀ b, b < Tryz.prog.globals.size → S b) :
    Calls Tryz.prog 16 #[.pointer (some ⟨g, 0, none⟩)] w fun e w' => e = .panicked (faultAt i) ∧ ∃ cs, Mem S w [bx g 49 cs] w' := by
  have HB : Hid (∀ w', w'.cell? ⟨g, 0, none⟩ = some (str s) → Calls Tryz.prog 29 #[.pointer (some ⟨g, 0, none⟩), fi p, .func (.func 30) #[] #[]] w' fun e w'' => e = .returned (fi i) ∧ w' = w'') := Lib.hid (fun w' hc => by rw [← hi]; exact row_blank s hs g p hp w' hc)
  clear hi
  have hlt : i < s.length := (List.getElem?_eq_some_iff.1 hc).1
  have he2 : ((i : Int) == (s.length : Int)) = false := by rw [beq_eq_false_iff_ne]; omega
  have hw1 : IntKind.i64.wrap ((i : Int) + 1) = (i : Int) + 1 := IntWalk.i64_in _ (by omega)
  have hc256 : c.toNat < 256 := c.toNat_lt
  have HC := Lib.hid hc
  clear hc
  have HS : Hid (∀ w', Calls Tryz.prog 31 #[.int .u8 (c.toNat : Int)] w' fun e w'' => e = .returned (.bool false) ∧ w' = w'') := Lib.hid (fun w' => by rw [← h1]; exact small_any c w')
  have HD : Hid (∀ w', Calls Tryz.prog 33 #[.int .u8 (c.toNat : Int)] w' fun e w'' => e = .returned (.bool true) ∧ w' = w'') := Lib.hid (fun w' => by rw [← h2]; exact digit_any c w')
  have HR : Hid (∀ w', w'.cell? ⟨g, 0, none⟩ = some (str s) → Calls Tryz.prog 29 #[.pointer (some ⟨g, 0, none⟩), fi ((i : Int) + 1), .func (.func 33) #[] #[]] w' fun e w'' => e = .returned (fi j) ∧ w' = w'') := Lib.hid (fun w' hx => by rw [← hj]; exact row_digit s hs g (i + 1) (by omega) w' hx)
  have hjl : j ≤ s.length := by rw [← hj]; exact run_le (by omega)
  have hij : i < j := by omega
  clear hj
  clear h1 h2
  have htl : ((s.drop i).take (j - i)).length ≤ 1048576 := by rw [List.length_take, List.length_drop]; omega
  have HP : Hid (∀ w', Mem S w [rd g s p 2 i [] d] w' → Calls Tryz.prog 34 #[str ((s.drop i).take (j - i)), .int .i64 10, .int .i64 64] w' fun e w'' => Ext w' w'' ∧ ∃ v t x, e = .returned (.tuple #[.int .i64 v, .iface t x])) := Lib.hid (fun w' M' => (parseInt_any _ htl w' (hNv.mem hS M')).mono fun e w'' ⟨hX, h⟩ => ⟨hX, by
    rcases h with ⟨v, h, -⟩ | ⟨-, h⟩
    · exact (hv v h).elim
    · exact h⟩)
  clear hv hNv hS htl
  go_enter Tryz.func16, Tryz.ntmps16
  (try dsimp only); (repeat (first | (first | (go_at_call 29; (first | (with_reducible refine (HB.out _ (M.at_ pk 0 _ rfl)).mono ?_) | (with_reducible refine (HR.out _ (M.at_ pk 0 _ rfl)).mono ?_)); rintro _ w1 ⟨rfl, rfl⟩; dsimp only) | ((with_reducible refine on_store ?_); refine xsA M ?_; clear M; intro w' M; (try simp only [List.take_succ_cons, List.take_zero, List.length_cons, List.length_nil, Nat.reduceAdd, List.drop_succ_cons, List.drop_zero, List.drop_nil, List.cons_append, List.nil_append] at M)) | ((with_reducible refine on_indexT ?_); refine wp_indexT _ _ _ rfl Tryz.underlying9 s rfl _ i rfl c HC.out ?_; (first | ((with_reducible refine fastK Tryz.prog rfl ?_); go_big_move) | (with_reducible refine fastN rfl ?_) | skip)) | (go_at_call 31; (with_reducible refine (HS.out _).mono ?_); rintro _ w1 ⟨rfl, rfl⟩; dsimp only) | (go_at_call 33; (with_reducible refine (HD.out _).mono ?_); rintro _ w1 ⟨rfl, rfl⟩; dsimp only) | ((with_reducible refine on_cutT ?_); refine wp_cutT _ _ _ _ rfl Tryz.underlying9 s rfl _ _ i (j) rfl (by first | rfl | (simp; done) | (simp; omega)) (by omega) (by omega) _ rfl ?_; (first | ((with_reducible refine fastK Tryz.prog rfl ?_); go_big_move) | (with_reducible refine fastN rfl ?_) | skip)) | (go_at_call 34; (with_reducible refine (HP.out _ M).mono ?_); rintro _ w1 ⟨hX, v, x1, x2, rfl⟩; replace M := M.ext hX; clear hX; dsimp only) | ((with_reducible refine on_region 15 ?_); refine wp_region_mem0 M (by kernel_rfl) (by kernel_rfl) ?_; clear M; intro w' M; (repeat (first | ((with_reducible refine st_load ?_); first | fail | (refine st_load1 M _ _ rfl pk (fun w => ⟨by first | (simp [go_sem]; done) | (simp [go_sem]; rfl), by first | (simp [go_sem]; done) | (simp [go_sem]; rfl)⟩) _ (by rfl) ?_; (first | ((with_reducible refine fastS Tryz.prog rfl ?_); go_big_move; (with_reducible show wpStill _ _ _ _ _ _)) | (with_reducible refine fastSN rfl ?_) | skip)) | (refine st_loadN M _ rfl pk (fun w => ⟨by first | (simp [go_sem]; done) | (simp [go_sem]; rfl), by first | (simp [go_sem]; done) | (simp [go_sem]; rfl)⟩) ?_; (first | ((with_reducible refine fastS Tryz.prog rfl ?_); go_big_move; (with_reducible show wpStill _ _ _ _ _ _)) | (with_reducible refine fastSN rfl ?_) | skip))) | ((with_reducible refine st_g ?_); first | ((with_reducible refine st_on2 (by kernel_rfl) (fun Q' hQ' => ?_) ?_); (focus (go_big_want; rename_i K hK; go_big_move; refine hK _ _ ?_; exact hQ' _))) | ((with_reducible refine st_off (by kernel_rfl) ?_); (first | ((with_reducible refine fastS Tryz.prog rfl ?_); go_big_move; (with_reducible show wpStill _ _ _ _ _ _)) | (with_reducible refine fastSN rfl ?_) | skip))) | ((with_reducible refine st_quiet2 rfl rfl (fun K hK => ?_)); (first | go_big_move | go_big_op); refine hK _ ?_; clear hK K) | still_step)); refine wpStill_nil ?_) | ((with_reducible refine wl_g ?_); first | go_big_want | go_skip | ((with_reducible refine wl_off (by kernel_rfl) ?_); (first | ((with_reducible refine fastK Tryz.prog rfl ?_); go_big_move) | (with_reducible refine fastN rfl ?_) | skip))) | ((with_reducible refine on_load ?_); (first | refine xl1 M ?_ | refine xlN M ?_); go_big_move) | ((with_reducible refine on_store ?_); (first | refine xs1 M ?_ | refine xsN M ?_); clear M; intro w' M; (try simp only [List.set_cons_zero, List.set_cons_succ] at M))) | go_values | go_skip | go_guarded | go_step | go_upon))
  exact ⟨rfl, rfl, _, M⟩
set_option maxRecDepth 100000 in
set_option maxHeartbeats 800000 in
theorem next_digit_bad (s : List UInt8) (hs : s.length ≤ 1048576) (p : Nat) (hp : p ≤ s.length) (i : Nat) (hi : startOf s p = i) (c : UInt8) (hc : s[i]? = some c) (h1 : isSmall c = false) (h2 : isDigit c = true) (j : Nat) (hj : i + 1 + runLen isDigit (s.drop (i + 1)) = j) (v : Int) (hv : Lib.parseIntB 64 ((s.drop i).take (j - i)) = .ok v) (hne : Lib.itoa v ≠ (s.drop i).take (j - i)) {S : Nat → Prop} {g : Nat} {k0 t0 d : Int} {ts : List UInt8} {w : World} (M : Mem S w [rd g s p k0 t0 ts d] w) (hNv : Nv w) (hS : ∀ b, b < Tryz.prog.globals.size → S b) :
    Calls Tryz.prog 16 #[.pointer (some ⟨g, 0, none⟩)] w fun e w' => e = .panicked (faultAt i) ∧ ∃ cs, Mem S w [bx g 49 cs] w' := by
  have HB : Hid (∀ w', w'.cell? ⟨g, 0, none⟩ = some (str s) → Calls Tryz.prog 29 #[.pointer (some ⟨g, 0, none⟩), fi p, .func (.func 30) #[] #[]] w' fun e w'' => e = .returned (fi i) ∧ w' = w'') := Lib.hid (fun w' hc => by rw [← hi]; exact row_blank s hs g p hp w' hc)
  clear hi
  have hlt : i < s.length := (List.getElem?_eq_some_iff.1 hc).1
  have he2 : ((i : Int) == (s.length : Int)) = false := by rw [beq_eq_false_iff_ne]; omega
  have hw1 : IntKind.i64.wrap ((i : Int) + 1) = (i : Int) + 1 := IntWalk.i64_in _ (by omega)
  have hc256 : c.toNat < 256 := c.toNat_lt
  have HC := Lib.hid hc
  clear hc
  have HS : Hid (∀ w', Calls Tryz.prog 31 #[.int .u8 (c.toNat : Int)] w' fun e w'' => e = .returned (.bool false) ∧ w' = w'') := Lib.hid (fun w' => by rw [← h1]; exact small_any c w')
  have HD : Hid (∀ w', Calls Tryz.prog 33 #[.int .u8 (c.toNat : Int)] w' fun e w'' => e = .returned (.bool true) ∧ w' = w'') := Lib.hid (fun w' => by rw [← h2]; exact digit_any c w')
  have HR : Hid (∀ w', w'.cell? ⟨g, 0, none⟩ = some (str s) → Calls Tryz.prog 29 #[.pointer (some ⟨g, 0, none⟩), fi ((i : Int) + 1), .func (.func 33) #[] #[]] w' fun e w'' => e = .returned (fi j) ∧ w' = w'') := Lib.hid (fun w' hx => by rw [← hj]; exact row_digit s hs g (i + 1) (by omega) w' hx)
  have hjl : j ≤ s.length := by rw [← hj]; exact run_le (by omega)
  have hij : i < j := by omega
  clear hj
  clear h1 h2
  have htl : ((s.drop i).take (j - i)).length ≤ 1048576 := by rw [List.length_take, List.length_drop]; omega
  have HP : Hid (∀ w', Mem S w [rd g s p 2 i [] d] w' → Calls Tryz.prog 34 #[str ((s.drop i).take (j - i)), .int .i64 10, .int .i64 64] w' fun e w'' => e = .returned (.tuple #[.int .i64 v, .nilIface]) ∧ Ext w' w'') := Lib.hid (fun w' M' => (parseInt_any _ htl w' (hNv.mem hS M')).mono fun e w'' ⟨hX, h⟩ => ⟨by
    rcases h with ⟨v', h, h'⟩ | ⟨h, -⟩
    · rw [hv] at h; cases h; exact h'
    · exact (h v hv).elim, hX⟩)
  have HF : Hid (∀ w', Mem S w [rd g s p 2 i [] d] w' → Calls Tryz.prog 35 #[fi v, .int .i64 10] w' fun e w'' => e = .returned (str (Lib.itoa v)) ∧ Ext w' w'') := Lib.hid (fun w' M' => formatInt_any v (parse_i64 hv) w' (hNv.mem hS M'))
  have q1 : (Lib.itoa v == (s.drop i).take (j - i)) = false := by rw [beq_eq_false_iff_ne]; exact hne
  have q2 : (Lib.itoa v != (s.drop i).take (j - i)) = true := by rw [bne_iff_ne]; exact hne
  clear hne
  have hcut := fun w => run_cutT (P := Tryz.prog) Tryz.underlying9 s .i64 .i64 i j (by omega) hjl _ rfl w
  clear hv hNv hS htl
  generalize Lib.itoa v = tv at *
  go_enter Tryz.func16, Tryz.ntmps16
  (try dsimp only); (repeat (first | (first | (go_at_call 29; (first | (with_reducible refine (HB.out _ (M.at_ pk 0 _ rfl)).mono ?_) | (with_reducible refine (HR.out _ (M.at_ pk 0 _ rfl)).mono ?_)); rintro _ w1 ⟨rfl, rfl⟩; dsimp only) | ((with_reducible refine on_store ?_); refine xsA M ?_; clear M; intro w' M; (try simp only [List.take_succ_cons, List.take_zero, List.length_cons, List.length_nil, Nat.reduceAdd, List.drop_succ_cons, List.drop_zero, List.drop_nil, List.cons_append, List.nil_append] at M)) | ((with_reducible refine on_indexT ?_); refine wp_indexT _ _ _ rfl Tryz.underlying9 s rfl _ i rfl c HC.out ?_; (first | ((with_reducible refine fastK Tryz.prog rfl ?_); go_big_move) | (with_reducible refine fastN rfl ?_) | skip)) | (go_at_call 31; (with_reducible refine (HS.out _).mono ?_); rintro _ w1 ⟨rfl, rfl⟩; dsimp only) | (go_at_call 33; (with_reducible refine (HD.out _).mono ?_); rintro _ w1 ⟨rfl, rfl⟩; dsimp only) | ((with_reducible refine on_cutT ?_); refine wp_cutT _ _ _ _ rfl Tryz.underlying9 s rfl _ _ i (j) rfl (by first | rfl | (simp; done) | (simp; omega)) (by omega) (by omega) _ rfl ?_; (first | ((with_reducible refine fastK Tryz.prog rfl ?_); go_big_move) | (with_reducible refine fastN rfl ?_) | skip)) | (go_at_call 34; (with_reducible refine (HP.out _ M).mono ?_); rintro _ w1 ⟨rfl, hX⟩; replace M := M.ext hX; clear hX; dsimp only) | ((with_reducible refine on_region 15 ?_); refine wp_region_keep M [0] 14 [(0, true), (1, true), (2, true), (3, true), (5, true), (6, true), (7, true), (8, true), (9, true), (10, true), (11, true), (4, false), (12, true), (13, true)] (by kernel_rfl) (by kernel_rfl) (fun _ _ d _ _ h => by cases d <;> exact h) ?_; clear M; intro w' M; (iterate 7 ((refine wpSch_q ?_ rfl rfl (fun w' hR => ?_) ?_); rotate_left; (focus (go_simp; first | rfl | rw [if_neg (by simp; omega)] | rw [if_neg (by omega)] | rw [if_pos (by omega)] | (rw [if_pos (by omega)]; simp; done))); (first | simp only [Act.put, List.setIfInBounds_toArray, List.set_cons_zero, List.set_cons_succ] | skip))); (refine sch_load1G M 0 rfl rfl (by decide) _ _ rfl _ rfl pk (fun w => ⟨by first | (simp [go_sem]; done) | (simp [go_sem]; rfl), by first | (simp [go_sem]; done) | (simp [go_sem]; rfl)⟩) _ (by rfl) ?_; (first | simp only [Act.put, List.setIfInBounds_toArray, List.set_cons_zero, List.set_cons_succ] | skip)); (iterate 3 ((refine wpSch_q ?_ rfl rfl (fun w' hR => ?_) ?_); rotate_left; (focus (go_simp; first | rfl | rw [if_neg (by simp; omega)] | rw [if_neg (by omega)] | rw [if_pos (by omega)] | (rw [if_pos (by omega)]; simp; done))); (first | simp only [Act.put, List.setIfInBounds_toArray, List.set_cons_zero, List.set_cons_succ] | skip))); (refine wpSch_e rfl rfl (fun K hK => ?_); go_simp; refine (HF.out _ M).mono ?_; rintro _ w1 ⟨rfl, hX⟩; refine hK _ _ (fun _ => keepR.ext hX) ?_; replace M := M.ext hX; clear hX; clear hK K; (first | simp only [Act.put, List.setIfInBounds_toArray, List.set_cons_zero, List.set_cons_succ] | skip)); (iterate 2 ((refine wpSch_q ?_ rfl rfl (fun w' hR => ?_) ?_); rotate_left; (focus (go_simp; first | rfl | rw [if_neg (by simp; omega)] | rw [if_neg (by omega)] | rw [if_pos (by omega)] | (rw [if_pos (by omega)]; simp; done))); (first | simp only [Act.put, List.setIfInBounds_toArray, List.set_cons_zero, List.set_cons_succ] | skip))); refine wpSch_nil ?_) | ((with_reducible refine wl_g ?_); first | go_big_want | go_skip | ((with_reducible refine wl_off (by kernel_rfl) ?_); (first | ((with_reducible refine fastK Tryz.prog rfl ?_); go_big_move) | (with_reducible refine fastN rfl ?_) | skip))) | ((with_reducible refine on_load ?_); (first | refine xl1 M ?_ | refine xlN M ?_); go_big_move) | ((with_reducible refine on_store ?_); (first | refine xs1 M ?_ | refine xsN M ?_); clear M; intro w' M; (try simp only [List.set_cons_zero, List.set_cons_succ] at M))) | go_values | go_skip | go_guarded | go_step | go_upon))
  exact ⟨rfl, rfl, _, M⟩
set_option maxRecDepth 100000 in
set_option maxHeartbeats 800000 in
theorem next_digit_ok (s : List UInt8) (hs : s.length ≤ 1048576) (p : Nat) (hp : p ≤ s.length) (i : Nat) (hi : startOf s p = i) (c : UInt8) (hc : s[i]? = some c) (h1 : isSmall c = false) (h2 : isDigit c = true) (j : Nat) (hj : i + 1 + runLen isDigit (s.drop (i + 1)) = j) (v : Int) (hv : Lib.parseIntB 64 ((s.drop i).take (j - i)) = .ok v) (he : Lib.itoa v = (s.drop i).take (j - i)) {S : Nat → Prop} {g : Nat} {k0 t0 d : Int} {ts : List UInt8} {w : World} (M : Mem S w [rd g s p k0 t0 ts d] w) (hNv : Nv w) (hS : ∀ b, b < Tryz.prog.globals.size → S b) :
    Calls Tryz.prog 16 #[.pointer (some ⟨g, 0, none⟩)] w fun e w' => e = .returned (.tuple #[]) ∧ Mem S w [rd g s j 2 i ((s.drop i).take (j - i)) d] w' := by
  have HB : Hid (∀ w', w'.cell? ⟨g, 0, none⟩ = some (str s) → Calls Tryz.prog 29 #[.pointer (some ⟨g, 0, none⟩), fi p, .func (.func 30) #[] #[]] w' fun e w'' => e = .returned (fi i) ∧ w' = w'') := Lib.hid (fun w' hc => by rw [← hi]; exact row_blank s hs g p hp w' hc)
  clear hi
  have hlt : i < s.length := (List.getElem?_eq_some_iff.1 hc).1
  have he2 : ((i : Int) == (s.length : Int)) = false := by rw [beq_eq_false_iff_ne]; omega
  have hw1 : IntKind.i64.wrap ((i : Int) + 1) = (i : Int) + 1 := IntWalk.i64_in _ (by omega)
  have hc256 : c.toNat < 256 := c.toNat_lt
  have HC := Lib.hid hc
  clear hc
  have HS : Hid (∀ w', Calls Tryz.prog 31 #[.int .u8 (c.toNat : Int)] w' fun e w'' => e = .returned (.bool false) ∧ w' = w'') := Lib.hid (fun w' => by rw [← h1]; exact small_any c w')
  have HD : Hid (∀ w', Calls Tryz.prog 33 #[.int .u8 (c.toNat : Int)] w' fun e w'' => e = .returned (.bool true) ∧ w' = w'') := Lib.hid (fun w' => by rw [← h2]; exact digit_any c w')
  have HR : Hid (∀ w', w'.cell? ⟨g, 0, none⟩ = some (str s) → Calls Tryz.prog 29 #[.pointer (some ⟨g, 0, none⟩), fi ((i : Int) + 1), .func (.func 33) #[] #[]] w' fun e w'' => e = .returned (fi j) ∧ w' = w'') := Lib.hid (fun w' hx => by rw [← hj]; exact row_digit s hs g (i + 1) (by omega) w' hx)
  have hjl : j ≤ s.length := by rw [← hj]; exact run_le (by omega)
  have hij : i < j := by omega
  clear hj
  clear h1 h2
  have htl : ((s.drop i).take (j - i)).length ≤ 1048576 := by rw [List.length_take, List.length_drop]; omega
  have HP : Hid (∀ w', Mem S w [rd g s p 2 i [] d] w' → Calls Tryz.prog 34 #[str ((s.drop i).take (j - i)), .int .i64 10, .int .i64 64] w' fun e w'' => e = .returned (.tuple #[.int .i64 v, .nilIface]) ∧ Ext w' w'') := Lib.hid (fun w' M' => (parseInt_any _ htl w' (hNv.mem hS M')).mono fun e w'' ⟨hX, h⟩ => ⟨by
    rcases h with ⟨v', h, h'⟩ | ⟨h, -⟩
    · rw [hv] at h; cases h; exact h'
    · exact (h v hv).elim, hX⟩)
  have HF : Hid (∀ w', Mem S w [rd g s p 2 i [] d] w' → Calls Tryz.prog 35 #[fi v, .int .i64 10] w' fun e w'' => e = .returned (str (Lib.itoa v)) ∧ Ext w' w'') := Lib.hid (fun w' M' => formatInt_any v (parse_i64 hv) w' (hNv.mem hS M'))
  have q1 : (Lib.itoa v == (s.drop i).take (j - i)) = true := by rw [beq_iff_eq]; exact he
  have q2 : (Lib.itoa v != (s.drop i).take (j - i)) = false := by simpa using he
  clear he
  have hcut := fun w => run_cutT (P := Tryz.prog) Tryz.underlying9 s .i64 .i64 i j (by omega) hjl _ rfl w
  clear hv hNv hS htl
  generalize Lib.itoa v = tv at *
  go_enter Tryz.func16, Tryz.ntmps16
  (try dsimp only); (repeat (first | (first | (go_at_call 29; (first | (with_reducible refine (HB.out _ (M.at_ pk 0 _ rfl)).mono ?_) | (with_reducible refine (HR.out _ (M.at_ pk 0 _ rfl)).mono ?_)); rintro _ w1 ⟨rfl, rfl⟩; dsimp only) | ((with_reducible refine on_store ?_); refine xsA M ?_; clear M; intro w' M; (try simp only [List.take_succ_cons, List.take_zero, List.length_cons, List.length_nil, Nat.reduceAdd, List.drop_succ_cons, List.drop_zero, List.drop_nil, List.cons_append, List.nil_append] at M)) | ((with_reducible refine on_indexT ?_); refine wp_indexT _ _ _ rfl Tryz.underlying9 s rfl _ i rfl c HC.out ?_; (first | ((with_reducible refine fastK Tryz.prog rfl ?_); go_big_move) | (with_reducible refine fastN rfl ?_) | skip)) | (go_at_call 31; (with_reducible refine (HS.out _).mono ?_); rintro _ w1 ⟨rfl, rfl⟩; dsimp only) | (go_at_call 33; (with_reducible refine (HD.out _).mono ?_); rintro _ w1 ⟨rfl, rfl⟩; dsimp only) | ((with_reducible refine on_cutT ?_); refine wp_cutT _ _ _ _ rfl Tryz.underlying9 s rfl _ _ i (j) rfl (by first | rfl | (simp; done) | (simp; omega)) (by omega) (by omega) _ rfl ?_; (first | ((with_reducible refine fastK Tryz.prog rfl ?_); go_big_move) | (with_reducible refine fastN rfl ?_) | skip)) | (go_at_call 34; (with_reducible refine (HP.out _ M).mono ?_); rintro _ w1 ⟨rfl, hX⟩; replace M := M.ext hX; clear hX; dsimp only) | ((with_reducible refine on_region 15 ?_); refine wp_region_keep M [0] 14 [(0, true), (1, true), (2, true), (3, true), (5, true), (6, true), (7, true), (8, true), (9, true), (10, true), (11, true), (4, false), (12, true), (13, true)] (by kernel_rfl) (by kernel_rfl) (fun _ _ d _ _ h => by cases d <;> exact h) ?_; clear M; intro w' M; (iterate 7 ((refine wpSch_q ?_ rfl rfl (fun w' hR => ?_) ?_); rotate_left; (focus (go_simp; first | rfl | rw [if_neg (by simp; omega)] | rw [if_neg (by omega)] | rw [if_pos (by omega)] | (rw [if_pos (by omega)]; simp; done))); (first | simp only [Act.put, List.setIfInBounds_toArray, List.set_cons_zero, List.set_cons_succ] | skip))); (refine sch_load1G M 0 rfl rfl (by decide) _ _ rfl _ rfl pk (fun w => ⟨by first | (simp [go_sem]; done) | (simp [go_sem]; rfl), by first | (simp [go_sem]; done) | (simp [go_sem]; rfl)⟩) _ (by rfl) ?_; (first | simp only [Act.put, List.setIfInBounds_toArray, List.set_cons_zero, List.set_cons_succ] | skip)); (iterate 3 ((refine wpSch_q ?_ rfl rfl (fun w' hR => ?_) ?_); rotate_left; (focus (go_simp; first | rfl | rw [if_neg (by simp; omega)] | rw [if_neg (by omega)] | rw [if_pos (by omega)] | (rw [if_pos (by omega)]; simp; done))); (first | simp only [Act.put, List.setIfInBounds_toArray, List.set_cons_zero, List.set_cons_succ] | skip))); (refine wpSch_e rfl rfl (fun K hK => ?_); go_simp; refine (HF.out _ M).mono ?_; rintro _ w1 ⟨rfl, hX⟩; refine hK _ _ (fun _ => keepR.ext hX) ?_; replace M := M.ext hX; clear hX; clear hK K; (first | simp only [Act.put, List.setIfInBounds_toArray, List.set_cons_zero, List.set_cons_succ] | skip)); (iterate 2 ((refine wpSch_q ?_ rfl rfl (fun w' hR => ?_) ?_); rotate_left; (focus (go_simp; first | rfl | rw [if_neg (by simp; omega)] | rw [if_neg (by omega)] | rw [if_pos (by omega)] | (rw [if_pos (by omega)]; simp; done))); (first | simp only [Act.put, List.setIfInBounds_toArray, List.set_cons_zero, List.set_cons_succ] | skip))); refine wpSch_nil ?_) | ((with_reducible refine wl_g ?_); first | go_big_want | go_skip | ((with_reducible refine wl_off (by kernel_rfl) ?_); (first | ((with_reducible refine fastK Tryz.prog rfl ?_); go_big_move) | (with_reducible refine fastN rfl ?_) | skip))) | ((with_reducible refine on_load ?_); (first | refine xl1 M ?_ | refine xlN M ?_); go_big_move) | ((with_reducible refine on_store ?_); (first | refine xs1 M ?_ | refine xsN M ?_); clear M; intro w' M; (try simp only [List.set_cons_zero, List.set_cons_succ] at M))) | go_values | go_skip | go_guarded | go_step | go_upon))
  exact ret_n0 rfl rfl ⟨rfl, M⟩
end Go.Proofs.YtkblkdnihppmnaaGreatDoor
