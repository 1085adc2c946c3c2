/- Parts of this work, one behind the other: Rff. -/
import Derived.Test.YtkblkdnihppmnaaGreatDoorPkv27
import Derived.Test.YtkblkdnihppmnaaGreatDoorPkv1
/- Filters (layer 21): the document's reader (walk): one (printed by gen_rf.py). -/
namespace Go.Proofs.YtkblkdnihppmnaaGreatDoor
set_option linter.unusedSimpArgs false
set_option linter.unusedVariables false
open Go.RowKit Res Filt

set_option maxRecDepth 100000 in
set_option maxHeartbeats 800000 in
theorem rone_test_word (s : List UInt8) (hs : s.length ≤ 1048576) (d : Nat) (hd : d ≤ 32) (S : Nat → Prop) (gr p : Nat) (A : Option Addr) (c : Nat) (out : List FN) (w0 w : World) (hp : p ≤ s.length) (hout : out.length ≤ p) (M : Mem S w0 [rx gr s p false 0 A out.length c (d : Int), ro A c out] w) (f0 : (kindN (lex s p).kind == 4) = false) (f1 : (kindN (lex s p).kind == 1) = true) (f2 : (textOf s (lex s p) == [110, 111, 116]) = false) (hN : ¬ isWord s p wNot) (hO : ¬ isWord s p wOpen)
    (HT : Hid (∀ (S : Nat → Prop) (w0 w : World), Mem S w0 [rx gr s p false 0 A out.length c (d : Int), ro A c out] w → Calls Tryz.prog 62 #[.pointer (some ⟨gr, 0, none⟩)] w fun e w' => e = .returned (.tuple #[]) ∧ RxPost S s gr p (d : Int) w0 out 0 ((lang s).test false p) w')) :
    Calls Tryz.prog 50 #[.pointer (some ⟨gr, 0, none⟩)] w fun e w' => e = .returned (.tuple #[]) ∧ ∃ r, Reads (lang s) false .one d p r ∧ RxPost S s gr p (d : Int) w0 out (2 * (32 - d)) r w' := by
  have HN : Hid (∀ w', w'.cell? ⟨gr, 0, none⟩ = some (str s) → w'.cell? ⟨gr, 1, none⟩ = some (fi (p : Int)) → Calls Tryz.prog 19 #[.pointer (some ⟨gr, 0, none⟩)] w' fun e w'' => e = .returned (.agg #[fi (kindN (lex s p).kind), fi ((lex s p).at_ : Nat), fi ((lex s p).next : Nat), str (textOf s (lex s p))]) ∧ Ext w' w'') := Lib.hid (fun w' h0 h1 => ref_next s hs gr p hp w' h0 h1)
  have HR := Lib.hid (Reads.test (L := lang s) (e := false) (d := d) hN hO)
  clear hN hO
  obtain ⟨r, hr⟩ : ∃ r, (lang s).test false p = r := ⟨_, rfl⟩
  rw [hr] at HT HR
  clear hr
  generalize textOf s (lex s p) = tx at *
  generalize kindN (lex s p).kind = k at *
  go_enter Tryz.func50, Tryz.ntmps50
  (try dsimp only); (repeat (first | (first | (go_at_call 19; (with_reducible refine (HN.out _ (M.at_ pk 0 _ rfl) (M.at_ pk 1 _ rfl)).mono ?_); rintro _ w1 ⟨rfl, hX⟩; replace M := M.ext hX; clear hX; dsimp only) | (go_at_call 62; (with_reducible refine (HT.out _ _ _ (M.only tk)).mono ?_); rintro _ w2 ⟨rfl, hx⟩; dsimp only; refine Hid.out ?_) | ((with_reducible refine wl_g ?_); first | go_big_want | go_skip | ((with_reducible refine wl_off (by kernel_rfl) ?_); (first | ((with_reducible refine fastK Tryz.prog rfl ?_); go_big_move) | (with_reducible refine fastN rfl ?_) | skip))) | ((with_reducible refine on_load ?_); (first | refine xl1 M ?_ | refine xlN M ?_); go_big_move) | ((with_reducible refine on_store ?_); (first | refine xs1 M ?_ | refine xsN M ?_); clear M; intro w' M; (try simp only [List.set_cons_zero, List.set_cons_succ] at M)) | ((with_reducible refine on_alloc ?_); refine xa M ?_; clear M; intro g w' M; go_big_move)) | go_values | go_skip | go_guarded | go_step | go_upon))
  cases r with
  | ok n q =>
    obtain ⟨h1, h2, A', c', M1⟩ := hx
    replace M := M.into tk M1
    clear M1
    dsimp only [List.cons_append, List.nil_append] at M
    refine Lib.hid ?_
    (try dsimp only); (repeat (first | (first | ((with_reducible refine wl_g ?_); first | go_big_want | go_skip | ((with_reducible refine wl_off (by kernel_rfl) ?_); (first | ((with_reducible refine fastK Tryz.prog rfl ?_); go_big_move) | (with_reducible refine fastN rfl ?_) | skip))) | ((with_reducible refine on_load ?_); (first | refine xl1 M ?_ | refine xlN M ?_); go_big_move) | ((with_reducible refine on_store ?_); (first | refine xs1 M ?_ | refine xsN M ?_); clear M; intro w' M; (try simp only [List.set_cons_zero, List.set_cons_succ] at M)) | ((with_reducible refine on_alloc ?_); refine xa M ?_; clear M; intro g w' M; go_big_move)) | go_values | go_skip | go_guarded | go_step | go_upon))
    (try rw [Exit.noGoto_ret])
    exact ret_m0 rfl rfl ⟨rfl, _, HR.out, h1, h2, A', c', M.sub tk⟩
  | fail a =>
    obtain ⟨q, A', c', out', h1, h2, M1⟩ := hx
    replace M := M.into tk M1
    clear M1
    dsimp only [List.cons_append, List.nil_append] at M
    refine Lib.hid ?_
    (try dsimp only); (repeat (first | (first | ((with_reducible refine wl_g ?_); first | go_big_want | go_skip | ((with_reducible refine wl_off (by kernel_rfl) ?_); (first | ((with_reducible refine fastK Tryz.prog rfl ?_); go_big_move) | (with_reducible refine fastN rfl ?_) | skip))) | ((with_reducible refine on_load ?_); (first | refine xl1 M ?_ | refine xlN M ?_); go_big_move) | ((with_reducible refine on_store ?_); (first | refine xs1 M ?_ | refine xsN M ?_); clear M; intro w' M; (try simp only [List.set_cons_zero, List.set_cons_succ] at M)) | ((with_reducible refine on_alloc ?_); refine xa M ?_; clear M; intro g w' M; go_big_move)) | go_values | go_skip | go_guarded | go_step | go_upon))
    (try rw [Exit.noGoto_ret])
    exact ret_m0 rfl rfl ⟨rfl, _, HR.out, q, A', c', out', h1, by omega, M.sub tk⟩
set_option maxRecDepth 100000 in
set_option maxHeartbeats 800000 in
theorem rone_test_mark (s : List UInt8) (hs : s.length ≤ 1048576) (d : Nat) (hd : d ≤ 32) (S : Nat → Prop) (gr p : Nat) (A : Option Addr) (c : Nat) (out : List FN) (w0 w : World) (hp : p ≤ s.length) (hout : out.length ≤ p) (M : Mem S w0 [rx gr s p false 0 A out.length c (d : Int), ro A c out] w) (f0 : (kindN (lex s p).kind == 4) = true) (f1 : (textOf s (lex s p) == [40]) = false) (f2 : (kindN (lex s p).kind == 1) = false) (hN : ¬ isWord s p wNot) (hO : ¬ isWord s p wOpen)
    (HT : Hid (∀ (S : Nat → Prop) (w0 w : World), Mem S w0 [rx gr s p false 0 A out.length c (d : Int), ro A c out] w → Calls Tryz.prog 62 #[.pointer (some ⟨gr, 0, none⟩)] w fun e w' => e = .returned (.tuple #[]) ∧ RxPost S s gr p (d : Int) w0 out 0 ((lang s).test false p) w')) :
    Calls Tryz.prog 50 #[.pointer (some ⟨gr, 0, none⟩)] w fun e w' => e = .returned (.tuple #[]) ∧ ∃ r, Reads (lang s) false .one d p r ∧ RxPost S s gr p (d : Int) w0 out (2 * (32 - d)) r w' := by
  have HN : Hid (∀ w', w'.cell? ⟨gr, 0, none⟩ = some (str s) → w'.cell? ⟨gr, 1, none⟩ = some (fi (p : Int)) → Calls Tryz.prog 19 #[.pointer (some ⟨gr, 0, none⟩)] w' fun e w'' => e = .returned (.agg #[fi (kindN (lex s p).kind), fi ((lex s p).at_ : Nat), fi ((lex s p).next : Nat), str (textOf s (lex s p))]) ∧ Ext w' w'') := Lib.hid (fun w' h0 h1 => ref_next s hs gr p hp w' h0 h1)
  have HR := Lib.hid (Reads.test (L := lang s) (e := false) (d := d) hN hO)
  clear hN hO
  obtain ⟨r, hr⟩ : ∃ r, (lang s).test false p = r := ⟨_, rfl⟩
  rw [hr] at HT HR
  clear hr
  generalize textOf s (lex s p) = tx at *
  generalize kindN (lex s p).kind = k at *
  go_enter Tryz.func50, Tryz.ntmps50
  (try dsimp only); (repeat (first | (first | (go_at_call 19; (with_reducible refine (HN.out _ (M.at_ pk 0 _ rfl) (M.at_ pk 1 _ rfl)).mono ?_); rintro _ w1 ⟨rfl, hX⟩; replace M := M.ext hX; clear hX; dsimp only) | (go_at_call 62; (with_reducible refine (HT.out _ _ _ (M.only tk)).mono ?_); rintro _ w2 ⟨rfl, hx⟩; dsimp only; refine Hid.out ?_) | ((with_reducible refine wl_g ?_); first | go_big_want | go_skip | ((with_reducible refine wl_off (by kernel_rfl) ?_); (first | ((with_reducible refine fastK Tryz.prog rfl ?_); go_big_move) | (with_reducible refine fastN rfl ?_) | skip))) | ((with_reducible refine on_load ?_); (first | refine xl1 M ?_ | refine xlN M ?_); go_big_move) | ((with_reducible refine on_store ?_); (first | refine xs1 M ?_ | refine xsN M ?_); clear M; intro w' M; (try simp only [List.set_cons_zero, List.set_cons_succ] at M)) | ((with_reducible refine on_alloc ?_); refine xa M ?_; clear M; intro g w' M; go_big_move)) | go_values | go_skip | go_guarded | go_step | go_upon))
  cases r with
  | ok n q =>
    obtain ⟨h1, h2, A', c', M1⟩ := hx
    replace M := M.into tk M1
    clear M1
    dsimp only [List.cons_append, List.nil_append] at M
    refine Lib.hid ?_
    (try dsimp only); (repeat (first | (first | ((with_reducible refine wl_g ?_); first | go_big_want | go_skip | ((with_reducible refine wl_off (by kernel_rfl) ?_); (first | ((with_reducible refine fastK Tryz.prog rfl ?_); go_big_move) | (with_reducible refine fastN rfl ?_) | skip))) | ((with_reducible refine on_load ?_); (first | refine xl1 M ?_ | refine xlN M ?_); go_big_move) | ((with_reducible refine on_store ?_); (first | refine xs1 M ?_ | refine xsN M ?_); clear M; intro w' M; (try simp only [List.set_cons_zero, List.set_cons_succ] at M)) | ((with_reducible refine on_alloc ?_); refine xa M ?_; clear M; intro g w' M; go_big_move)) | go_values | go_skip | go_guarded | go_step | go_upon))
    (try rw [Exit.noGoto_ret])
    exact ret_m0 rfl rfl ⟨rfl, _, HR.out, h1, h2, A', c', M.sub tk⟩
  | fail a =>
    obtain ⟨q, A', c', out', h1, h2, M1⟩ := hx
    replace M := M.into tk M1
    clear M1
    dsimp only [List.cons_append, List.nil_append] at M
    refine Lib.hid ?_
    (try dsimp only); (repeat (first | (first | ((with_reducible refine wl_g ?_); first | go_big_want | go_skip | ((with_reducible refine wl_off (by kernel_rfl) ?_); (first | ((with_reducible refine fastK Tryz.prog rfl ?_); go_big_move) | (with_reducible refine fastN rfl ?_) | skip))) | ((with_reducible refine on_load ?_); (first | refine xl1 M ?_ | refine xlN M ?_); go_big_move) | ((with_reducible refine on_store ?_); (first | refine xs1 M ?_ | refine xsN M ?_); clear M; intro w' M; (try simp only [List.set_cons_zero, List.set_cons_succ] at M)) | ((with_reducible refine on_alloc ?_); refine xa M ?_; clear M; intro g w' M; go_big_move)) | go_values | go_skip | go_guarded | go_step | go_upon))
    (try rw [Exit.noGoto_ret])
    exact ret_m0 rfl rfl ⟨rfl, _, HR.out, q, A', c', out', h1, by omega, M.sub tk⟩
set_option maxRecDepth 100000 in
set_option maxHeartbeats 800000 in
theorem rone_test_else (s : List UInt8) (hs : s.length ≤ 1048576) (d : Nat) (hd : d ≤ 32) (S : Nat → Prop) (gr p : Nat) (A : Option Addr) (c : Nat) (out : List FN) (w0 w : World) (hp : p ≤ s.length) (hout : out.length ≤ p) (M : Mem S w0 [rx gr s p false 0 A out.length c (d : Int), ro A c out] w) (f0 : (kindN (lex s p).kind == 4) = false) (f1 : (kindN (lex s p).kind == 1) = false) (hN : ¬ isWord s p wNot) (hO : ¬ isWord s p wOpen)
    (HT : Hid (∀ (S : Nat → Prop) (w0 w : World), Mem S w0 [rx gr s p false 0 A out.length c (d : Int), ro A c out] w → Calls Tryz.prog 62 #[.pointer (some ⟨gr, 0, none⟩)] w fun e w' => e = .returned (.tuple #[]) ∧ RxPost S s gr p (d : Int) w0 out 0 ((lang s).test false p) w')) :
    Calls Tryz.prog 50 #[.pointer (some ⟨gr, 0, none⟩)] w fun e w' => e = .returned (.tuple #[]) ∧ ∃ r, Reads (lang s) false .one d p r ∧ RxPost S s gr p (d : Int) w0 out (2 * (32 - d)) r w' := by
  have HN : Hid (∀ w', w'.cell? ⟨gr, 0, none⟩ = some (str s) → w'.cell? ⟨gr, 1, none⟩ = some (fi (p : Int)) → Calls Tryz.prog 19 #[.pointer (some ⟨gr, 0, none⟩)] w' fun e w'' => e = .returned (.agg #[fi (kindN (lex s p).kind), fi ((lex s p).at_ : Nat), fi ((lex s p).next : Nat), str (textOf s (lex s p))]) ∧ Ext w' w'') := Lib.hid (fun w' h0 h1 => ref_next s hs gr p hp w' h0 h1)
  have HR := Lib.hid (Reads.test (L := lang s) (e := false) (d := d) hN hO)
  clear hN hO
  obtain ⟨r, hr⟩ : ∃ r, (lang s).test false p = r := ⟨_, rfl⟩
  rw [hr] at HT HR
  clear hr
  generalize textOf s (lex s p) = tx at *
  generalize kindN (lex s p).kind = k at *
  go_enter Tryz.func50, Tryz.ntmps50
  (try dsimp only); (repeat (first | (first | (go_at_call 19; (with_reducible refine (HN.out _ (M.at_ pk 0 _ rfl) (M.at_ pk 1 _ rfl)).mono ?_); rintro _ w1 ⟨rfl, hX⟩; replace M := M.ext hX; clear hX; dsimp only) | (go_at_call 62; (with_reducible refine (HT.out _ _ _ (M.only tk)).mono ?_); rintro _ w2 ⟨rfl, hx⟩; dsimp only; refine Hid.out ?_) | ((with_reducible refine wl_g ?_); first | go_big_want | go_skip | ((with_reducible refine wl_off (by kernel_rfl) ?_); (first | ((with_reducible refine fastK Tryz.prog rfl ?_); go_big_move) | (with_reducible refine fastN rfl ?_) | skip))) | ((with_reducible refine on_load ?_); (first | refine xl1 M ?_ | refine xlN M ?_); go_big_move) | ((with_reducible refine on_store ?_); (first | refine xs1 M ?_ | refine xsN M ?_); clear M; intro w' M; (try simp only [List.set_cons_zero, List.set_cons_succ] at M)) | ((with_reducible refine on_alloc ?_); refine xa M ?_; clear M; intro g w' M; go_big_move)) | go_values | go_skip | go_guarded | go_step | go_upon))
  cases r with
  | ok n q =>
    obtain ⟨h1, h2, A', c', M1⟩ := hx
    replace M := M.into tk M1
    clear M1
    dsimp only [List.cons_append, List.nil_append] at M
    refine Lib.hid ?_
    (try dsimp only); (repeat (first | (first | ((with_reducible refine wl_g ?_); first | go_big_want | go_skip | ((with_reducible refine wl_off (by kernel_rfl) ?_); (first | ((with_reducible refine fastK Tryz.prog rfl ?_); go_big_move) | (with_reducible refine fastN rfl ?_) | skip))) | ((with_reducible refine on_load ?_); (first | refine xl1 M ?_ | refine xlN M ?_); go_big_move) | ((with_reducible refine on_store ?_); (first | refine xs1 M ?_ | refine xsN M ?_); clear M; intro w' M; (try simp only [List.set_cons_zero, List.set_cons_succ] at M)) | ((with_reducible refine on_alloc ?_); refine xa M ?_; clear M; intro g w' M; go_big_move)) | go_values | go_skip | go_guarded | go_step | go_upon))
    (try rw [Exit.noGoto_ret])
    exact ret_m0 rfl rfl ⟨rfl, _, HR.out, h1, h2, A', c', M.sub tk⟩
  | fail a =>
    obtain ⟨q, A', c', out', h1, h2, M1⟩ := hx
    replace M := M.into tk M1
    clear M1
    dsimp only [List.cons_append, List.nil_append] at M
    refine Lib.hid ?_
    (try dsimp only); (repeat (first | (first | ((with_reducible refine wl_g ?_); first | go_big_want | go_skip | ((with_reducible refine wl_off (by kernel_rfl) ?_); (first | ((with_reducible refine fastK Tryz.prog rfl ?_); go_big_move) | (with_reducible refine fastN rfl ?_) | skip))) | ((with_reducible refine on_load ?_); (first | refine xl1 M ?_ | refine xlN M ?_); go_big_move) | ((with_reducible refine on_store ?_); (first | refine xs1 M ?_ | refine xsN M ?_); clear M; intro w' M; (try simp only [List.set_cons_zero, List.set_cons_succ] at M)) | ((with_reducible refine on_alloc ?_); refine xa M ?_; clear M; intro g w' M; go_big_move)) | go_values | go_skip | go_guarded | go_step | go_upon))
    (try rw [Exit.noGoto_ret])
    exact ret_m0 rfl rfl ⟨rfl, _, HR.out, q, A', c', out', h1, by omega, M.sub tk⟩
set_option maxRecDepth 100000 in
set_option maxHeartbeats 800000 in
theorem rone_deep_not (s : List UInt8) (hs : s.length ≤ 1048576) (d : Nat) (hd : d ≤ 32) (S : Nat → Prop) (gr p : Nat) (A : Option Addr) (c : Nat) (out : List FN) (w0 w : World) (hp : p ≤ s.length) (hout : out.length ≤ p) (M : Mem S w0 [rx gr s p false 0 A out.length c (d : Int), ro A c out] w) (f0 : (kindN (lex s p).kind == 4) = false) (f1 : (kindN (lex s p).kind == 1) = true) (f2 : (textOf s (lex s p) == [110, 111, 116]) = true) (hW : isWord s p wNot) (h32 : d = 32) :
    Calls Tryz.prog 50 #[.pointer (some ⟨gr, 0, none⟩)] w fun e w' => e = .returned (.tuple #[]) ∧ ∃ r, Reads (lang s) false .one d p r ∧ RxPost S s gr p (d : Int) w0 out (2 * (32 - d)) r w' := by
  have HN : Hid (∀ w', w'.cell? ⟨gr, 0, none⟩ = some (str s) → w'.cell? ⟨gr, 1, none⟩ = some (fi (p : Int)) → Calls Tryz.prog 19 #[.pointer (some ⟨gr, 0, none⟩)] w' fun e w'' => e = .returned (.agg #[fi (kindN (lex s p).kind), fi ((lex s p).at_ : Nat), fi ((lex s p).next : Nat), str (textOf s (lex s p))]) ∧ Ext w' w'') := Lib.hid (fun w' h0 h1 => ref_next s hs gr p hp w' h0 h1)
  have HR : Hid (Reads (lang s) false .one d p (.fail (lex s p).at_)) := Lib.hid (Reads.deep (.inl hW) h32)
  have q1 : ((d : Int) == 32) = true := by rw [beq_iff_eq]; omega
  have HF := Lib.hid (fun (a : Int) (S : Nat → Prop) (w0 w : World) (M : Mem S w0 [rx gr s p false 0 A out.length c (d : Int)] w) => fails_good a M)
  clear hW
  generalize textOf s (lex s p) = tx at *
  generalize kindN (lex s p).kind = k at *
  go_enter Tryz.func50, Tryz.ntmps50
  (try dsimp only); (repeat (first | (first | (go_at_call 19; (with_reducible refine (HN.out _ (M.at_ pk 0 _ rfl) (M.at_ pk 1 _ rfl)).mono ?_); rintro _ w1 ⟨rfl, hX⟩; replace M := M.ext hX; clear hX; dsimp only) | (go_at_call 21; (with_reducible refine (HF.out _ _ _ _ (M.only tk)).mono ?_); rintro _ w2 ⟨rfl, M1⟩; replace M := M.into tk M1; clear M1; dsimp only [List.cons_append, List.nil_append] at M; dsimp only) | ((with_reducible refine wl_g ?_); first | go_big_want | go_skip | ((with_reducible refine wl_off (by kernel_rfl) ?_); (first | ((with_reducible refine fastK Tryz.prog rfl ?_); go_big_move) | (with_reducible refine fastN rfl ?_) | skip))) | ((with_reducible refine on_load ?_); (first | refine xl1 M ?_ | refine xlN M ?_); go_big_move) | ((with_reducible refine on_store ?_); (first | refine xs1 M ?_ | refine xsN M ?_); clear M; intro w' M; (try simp only [List.set_cons_zero, List.set_cons_succ] at M)) | ((with_reducible refine on_alloc ?_); refine xa M ?_; clear M; intro g w' M; go_big_move)) | go_values | go_skip | go_guarded | go_step | go_upon))
  (try rw [Exit.noGoto_ret])
  exact ret_m0 rfl rfl ⟨rfl, _, HR.out, p, A, c, out, hp, by omega, M.sub tk⟩
set_option maxRecDepth 100000 in
set_option maxHeartbeats 800000 in
theorem rone_deep_open (s : List UInt8) (hs : s.length ≤ 1048576) (d : Nat) (hd : d ≤ 32) (S : Nat → Prop) (gr p : Nat) (A : Option Addr) (c : Nat) (out : List FN) (w0 w : World) (hp : p ≤ s.length) (hout : out.length ≤ p) (M : Mem S w0 [rx gr s p false 0 A out.length c (d : Int), ro A c out] w) (f0 : (kindN (lex s p).kind == 4) = true) (f1 : (textOf s (lex s p) == [40]) = true) (f2 : (kindN (lex s p).kind == 1) = false) (hW : isWord s p wOpen) (h32 : d = 32) :
    Calls Tryz.prog 50 #[.pointer (some ⟨gr, 0, none⟩)] w fun e w' => e = .returned (.tuple #[]) ∧ ∃ r, Reads (lang s) false .one d p r ∧ RxPost S s gr p (d : Int) w0 out (2 * (32 - d)) r w' := by
  have HN : Hid (∀ w', w'.cell? ⟨gr, 0, none⟩ = some (str s) → w'.cell? ⟨gr, 1, none⟩ = some (fi (p : Int)) → Calls Tryz.prog 19 #[.pointer (some ⟨gr, 0, none⟩)] w' fun e w'' => e = .returned (.agg #[fi (kindN (lex s p).kind), fi ((lex s p).at_ : Nat), fi ((lex s p).next : Nat), str (textOf s (lex s p))]) ∧ Ext w' w'') := Lib.hid (fun w' h0 h1 => ref_next s hs gr p hp w' h0 h1)
  have HR : Hid (Reads (lang s) false .one d p (.fail (lex s p).at_)) := Lib.hid (Reads.deep (.inr hW) h32)
  have q1 : ((d : Int) == 32) = true := by rw [beq_iff_eq]; omega
  have HF := Lib.hid (fun (a : Int) (S : Nat → Prop) (w0 w : World) (M : Mem S w0 [rx gr s p false 0 A out.length c (d : Int)] w) => fails_good a M)
  clear hW
  generalize textOf s (lex s p) = tx at *
  generalize kindN (lex s p).kind = k at *
  go_enter Tryz.func50, Tryz.ntmps50
  (try dsimp only); (repeat (first | (first | (go_at_call 19; (with_reducible refine (HN.out _ (M.at_ pk 0 _ rfl) (M.at_ pk 1 _ rfl)).mono ?_); rintro _ w1 ⟨rfl, hX⟩; replace M := M.ext hX; clear hX; dsimp only) | (go_at_call 21; (with_reducible refine (HF.out _ _ _ _ (M.only tk)).mono ?_); rintro _ w2 ⟨rfl, M1⟩; replace M := M.into tk M1; clear M1; dsimp only [List.cons_append, List.nil_append] at M; dsimp only) | ((with_reducible refine wl_g ?_); first | go_big_want | go_skip | ((with_reducible refine wl_off (by kernel_rfl) ?_); (first | ((with_reducible refine fastK Tryz.prog rfl ?_); go_big_move) | (with_reducible refine fastN rfl ?_) | skip))) | ((with_reducible refine on_load ?_); (first | refine xl1 M ?_ | refine xlN M ?_); go_big_move) | ((with_reducible refine on_store ?_); (first | refine xs1 M ?_ | refine xsN M ?_); clear M; intro w' M; (try simp only [List.set_cons_zero, List.set_cons_succ] at M)) | ((with_reducible refine on_alloc ?_); refine xa M ?_; clear M; intro g w' M; go_big_move)) | go_values | go_skip | go_guarded | go_step | go_upon))
  (try rw [Exit.noGoto_ret])
  exact ret_m0 rfl rfl ⟨rfl, _, HR.out, p, A, c, out, hp, by omega, M.sub tk⟩
set_option maxRecDepth 100000 in
set_option maxHeartbeats 800000 in
theorem rone_not (s : List UInt8) (hs : s.length ≤ 1048576) (d : Nat) (hd : d ≤ 32) (S : Nat → Prop) (gr p : Nat) (A : Option Addr) (c : Nat) (out : List FN) (w0 w : World) (hp : p ≤ s.length) (hout : out.length ≤ p) (M : Mem S w0 [rx gr s p false 0 A out.length c (d : Int), ro A c out] w) (f0 : (kindN (lex s p).kind == 4) = false) (f1 : (kindN (lex s p).kind == 1) = true) (f2 : (textOf s (lex s p) == [110, 111, 116]) = true) (hW : isWord s p wNot) (h32 : d ≠ 32) (HO : Hid (∀ (S : Nat → Prop) (p : Nat) (A : Option Addr) (c : Nat) (out : List FN) (w0 w : World), p ≤ s.length → out.length ≤ p → Mem S w0 [rx gr s p false 0 A out.length c ((d : Int) + 1), ro A c out] w → Calls Tryz.prog 50 #[.pointer (some ⟨gr, 0, none⟩)] w fun e w' => e = .returned (.tuple #[]) ∧ ∃ r, Reads (lang s) false .one (d + 1) p r ∧ RxPost S s gr p ((d : Int) + 1) w0 out (2 * (32 - (d + 1))) r w')) :
    Calls Tryz.prog 50 #[.pointer (some ⟨gr, 0, none⟩)] w fun e w' => e = .returned (.tuple #[]) ∧ ∃ r, Reads (lang s) false .one d p r ∧ RxPost S s gr p (d : Int) w0 out (2 * (32 - d)) r w' := by
  have HN : Hid (∀ w', w'.cell? ⟨gr, 0, none⟩ = some (str s) → w'.cell? ⟨gr, 1, none⟩ = some (fi (p : Int)) → Calls Tryz.prog 19 #[.pointer (some ⟨gr, 0, none⟩)] w' fun e w'' => e = .returned (.agg #[fi (kindN (lex s p).kind), fi ((lex s p).at_ : Nat), fi ((lex s p).next : Nat), str (textOf s (lex s p))]) ∧ Ext w' w'') := Lib.hid (fun w' h0 h1 => ref_next s hs gr p hp w' h0 h1)
  have q1 : ((d : Int) == 32) = false := by rw [beq_eq_false_iff_ne]; omega
  have hd1 : IntKind.i64.wrap ((d : Int) + 1) = (d : Int) + 1 := IntWalk.i64_in _ (by omega)
  have hd2 : IntKind.i64.wrap ((d : Int) + 1 - 1) = (d : Int) := by rw [show (d : Int) + 1 - 1 = d by omega]; exact IntWalk.i64_in _ (by omega)
  have hpn : p < (lex s p).next := word_gt hW
  have hbk : (lex s p).kind ≠ .bad := by rcases hW.1 with h | h <;> (rw [h]; simp)
  have hps : (lex s p).next ≤ s.length := (next_le hp hbk).2
  have hlo : out.length ≤ (lex s p).next := by omega
  have HW := Lib.hid hW
  clear hW hbk
  generalize textOf s (lex s p) = tx at *
  generalize kindN (lex s p).kind = k at *
  go_enter Tryz.func50, Tryz.ntmps50
  (try dsimp only); (repeat (first | (first | (go_at_call 19; (with_reducible refine (HN.out _ (M.at_ pk 0 _ rfl) (M.at_ pk 1 _ rfl)).mono ?_); rintro _ w1 ⟨rfl, hX⟩; replace M := M.ext hX; clear hX; dsimp only) | (go_at_call 50; (with_reducible refine (HO.out _ _ _ _ _ _ _ hps hlo (M.only tk)).mono ?_); rintro _ w2 ⟨rfl, r, hr, hx⟩; dsimp only; refine Hid.out ?_) | ((with_reducible refine on_store ?_); refine xsA M ?_; clear M; intro w' M; (try simp only [List.take_succ_cons, List.take_zero, List.length_cons, List.length_nil, Nat.reduceAdd, List.drop_succ_cons, List.drop_zero, List.drop_nil, List.cons_append, List.nil_append] at M)) | ((with_reducible refine wl_g ?_); first | go_big_want | go_skip | ((with_reducible refine wl_off (by kernel_rfl) ?_); (first | ((with_reducible refine fastK Tryz.prog rfl ?_); go_big_move) | (with_reducible refine fastN rfl ?_) | skip))) | ((with_reducible refine on_load ?_); (first | refine xl1 M ?_ | refine xlN M ?_); go_big_move) | ((with_reducible refine on_store ?_); (first | refine xs1 M ?_ | refine xsN M ?_); clear M; intro w' M; (try simp only [List.set_cons_zero, List.set_cons_succ] at M)) | ((with_reducible refine on_alloc ?_); refine xa M ?_; clear M; intro g w' M; go_big_move)) | go_values | go_skip | go_guarded | go_step | go_upon))
  cases r with
  | ok n q =>
    obtain ⟨h1, h2, A', c', M1⟩ := hx
    replace M := M.into tk M1
    clear M1
    dsimp only [List.cons_append, List.nil_append] at M
    refine Lib.hid ?_
    have hlx : (out ++ flat n).length ≤ 2000000 := by rw [List.length_append]; omega
    have E : Hid (out ++ flat (.not n) = (out ++ flat n) ++ [FN.not]) := Lib.hid (by show out ++ (flat n ++ [FN.not]) = _; rw [List.append_assoc])
    have hfl : (flat (.not n)).length = (flat n).length + 1 := by show (flat n ++ [FN.not]).length = _; simp
    have HR : Hid (Reads (lang s) false .one d p (.ok (.not n) q)) := Lib.hid (by exact Reads.notOk HW.out h32 adv_lazy hr)
    clear hr
    obtain ⟨L, hL⟩ : ∃ L, L = out ++ flat n := ⟨_, rfl⟩
    rw [← hL] at M E hlx
    clear hL
    (try dsimp only); (repeat (first | (first | ((with_reducible refine on_single ?_); refine x1 M nodeElem ?_; clear M; intro g w' M; go_big_move) | ((with_reducible refine on_append ?_); refine xap M nodeElem FN.not fnV_len fnV_one ?_; clear M; intro A' c' w' M; go_big_move) | ((with_reducible refine wl_g ?_); first | go_big_want | go_skip | ((with_reducible refine wl_off (by kernel_rfl) ?_); (first | ((with_reducible refine fastK Tryz.prog rfl ?_); go_big_move) | (with_reducible refine fastN rfl ?_) | skip))) | ((with_reducible refine on_load ?_); (first | refine xl1 M ?_ | refine xlN M ?_); go_big_move) | ((with_reducible refine on_store ?_); (first | refine xs1 M ?_ | refine xsN M ?_); clear M; intro w' M; (try simp only [List.set_cons_zero, List.set_cons_succ] at M)) | ((with_reducible refine on_alloc ?_); refine xa M ?_; clear M; intro g w' M; go_big_move)) | go_values | go_skip | go_guarded | go_step | go_upon))
    (try rw [Exit.noGoto_ret])
    have M2 := M.sub (rs := [rx gr s q false 0 _ _ _ _, ro _ _ _]) tk
    have M3 := M2
    rw [show L.length + 1 = (L ++ [FN.not]).length by simp, ← E.out] at M3
    exact ret_n0 rfl rfl ⟨rfl, _, HR.out, h1, by omega, _, _, M3⟩
  | fail a =>
    obtain ⟨q, A', c', out', h1, h2, M1⟩ := hx
    replace M := M.into tk M1
    clear M1
    dsimp only [List.cons_append, List.nil_append] at M
    refine Lib.hid ?_
    have hlx : out'.length ≤ 2000000 := by omega
    have HR : Hid (Reads (lang s) false .one d p (.fail a)) := Lib.hid (by exact Reads.notFail HW.out h32 adv_lazy hr)
    clear hr
    (try dsimp only); (repeat (first | (first | ((with_reducible refine on_single ?_); refine x1 M nodeElem ?_; clear M; intro g w' M; go_big_move) | ((with_reducible refine on_append ?_); refine xap M nodeElem FN.not fnV_len fnV_one ?_; clear M; intro A' c' w' M; go_big_move) | ((with_reducible refine wl_g ?_); first | go_big_want | go_skip | ((with_reducible refine wl_off (by kernel_rfl) ?_); (first | ((with_reducible refine fastK Tryz.prog rfl ?_); go_big_move) | (with_reducible refine fastN rfl ?_) | skip))) | ((with_reducible refine on_load ?_); (first | refine xl1 M ?_ | refine xlN M ?_); go_big_move) | ((with_reducible refine on_store ?_); (first | refine xs1 M ?_ | refine xsN M ?_); clear M; intro w' M; (try simp only [List.set_cons_zero, List.set_cons_succ] at M)) | ((with_reducible refine on_alloc ?_); refine xa M ?_; clear M; intro g w' M; go_big_move)) | go_values | go_skip | go_guarded | go_step | go_upon))
    (try rw [Exit.noGoto_ret])
    have M2 := M.sub (rs := [rx gr s q true a _ _ _ _, ro _ _ _]) tk
    have M3 := M2
    rw [show out'.length + 1 = (out' ++ [FN.not]).length by simp] at M3
    exact ret_n0 rfl rfl ⟨rfl, _, HR.out, q, _, _, _, h1, by simp; omega, M3⟩
set_option maxRecDepth 100000 in
set_option maxHeartbeats 800000 in
theorem rone_open (s : List UInt8) (hs : s.length ≤ 1048576) (d : Nat) (hd : d ≤ 32) (S : Nat → Prop) (gr p : Nat) (A : Option Addr) (c : Nat) (out : List FN) (w0 w : World) (hp : p ≤ s.length) (hout : out.length ≤ p) (M : Mem S w0 [rx gr s p false 0 A out.length c (d : Int), ro A c out] w) (f0 : (kindN (lex s p).kind == 4) = true) (f1 : (textOf s (lex s p) == [40]) = true) (f2 : (kindN (lex s p).kind == 1) = false) (hW : isWord s p wOpen) (hN : ¬ isWord s p wNot) (h32 : d ≠ 32) (HO : Hid (∀ (S : Nat → Prop) (p : Nat) (A : Option Addr) (c : Nat) (out : List FN) (w0 w : World), p ≤ s.length → out.length ≤ p → Mem S w0 [rx gr s p false 0 A out.length c ((d : Int) + 1), ro A c out] w → Calls Tryz.prog 20 #[.pointer (some ⟨gr, 0, none⟩)] w fun e w' => e = .returned (.tuple #[]) ∧ ∃ r, Reads (lang s) false .any (d + 1) p r ∧ RxPost S s gr p ((d : Int) + 1) w0 out (2 * (32 - d)) r w')) :
    Calls Tryz.prog 50 #[.pointer (some ⟨gr, 0, none⟩)] w fun e w' => e = .returned (.tuple #[]) ∧ ∃ r, Reads (lang s) false .one d p r ∧ RxPost S s gr p (d : Int) w0 out (2 * (32 - d)) r w' := by
  have HN : Hid (∀ w', w'.cell? ⟨gr, 0, none⟩ = some (str s) → w'.cell? ⟨gr, 1, none⟩ = some (fi (p : Int)) → Calls Tryz.prog 19 #[.pointer (some ⟨gr, 0, none⟩)] w' fun e w'' => e = .returned (.agg #[fi (kindN (lex s p).kind), fi ((lex s p).at_ : Nat), fi ((lex s p).next : Nat), str (textOf s (lex s p))]) ∧ Ext w' w'') := Lib.hid (fun w' h0 h1 => ref_next s hs gr p hp w' h0 h1)
  have q1 : ((d : Int) == 32) = false := by rw [beq_eq_false_iff_ne]; omega
  have hd1 : IntKind.i64.wrap ((d : Int) + 1) = (d : Int) + 1 := IntWalk.i64_in _ (by omega)
  have hd2 : IntKind.i64.wrap ((d : Int) + 1 - 1) = (d : Int) := by rw [show (d : Int) + 1 - 1 = d by omega]; exact IntWalk.i64_in _ (by omega)
  have hpn : p < (lex s p).next := word_gt hW
  have hbk : (lex s p).kind ≠ .bad := by rcases hW.1 with h | h <;> (rw [h]; simp)
  have hps : (lex s p).next ≤ s.length := (next_le hp hbk).2
  have hlo : out.length ≤ (lex s p).next := by omega
  have HW := Lib.hid hW
  have HNW := Lib.hid hN
  clear hW hbk hN
  generalize textOf s (lex s p) = tx at *
  generalize kindN (lex s p).kind = k at *
  go_enter Tryz.func50, Tryz.ntmps50
  (try dsimp only); (repeat (first | (first | (go_at_call 19; (with_reducible refine (HN.out _ (M.at_ pk 0 _ rfl) (M.at_ pk 1 _ rfl)).mono ?_); rintro _ w1 ⟨rfl, hX⟩; replace M := M.ext hX; clear hX; dsimp only) | (go_at_call 20; (with_reducible refine (HO.out _ _ _ _ _ _ _ hps hlo (M.only tk)).mono ?_); rintro _ w2 ⟨rfl, r, hr, hx⟩; dsimp only; refine Hid.out ?_) | ((with_reducible refine on_store ?_); refine xsA M ?_; clear M; intro w' M; (try simp only [List.take_succ_cons, List.take_zero, List.length_cons, List.length_nil, Nat.reduceAdd, List.drop_succ_cons, List.drop_zero, List.drop_nil, List.cons_append, List.nil_append] at M)) | ((with_reducible refine wl_g ?_); first | go_big_want | go_skip | ((with_reducible refine wl_off (by kernel_rfl) ?_); (first | ((with_reducible refine fastK Tryz.prog rfl ?_); go_big_move) | (with_reducible refine fastN rfl ?_) | skip))) | ((with_reducible refine on_load ?_); (first | refine xl1 M ?_ | refine xlN M ?_); go_big_move) | ((with_reducible refine on_store ?_); (first | refine xs1 M ?_ | refine xsN M ?_); clear M; intro w' M; (try simp only [List.set_cons_zero, List.set_cons_succ] at M)) | ((with_reducible refine on_alloc ?_); refine xa M ?_; clear M; intro g w' M; go_big_move)) | go_values | go_skip | go_guarded | go_step | go_upon))
  cases r with
  | ok n q =>
    obtain ⟨h1, h2, A', c', M1⟩ := hx
    replace M := M.into tk M1
    clear M1
    dsimp only [List.cons_append, List.nil_append] at M
    refine Lib.hid ?_
    have HN2 : Hid (∀ w', w'.cell? ⟨gr, 0, none⟩ = some (str s) → w'.cell? ⟨gr, 1, none⟩ = some (fi (q : Int)) → Calls Tryz.prog 19 #[.pointer (some ⟨gr, 0, none⟩)] w' fun e w'' => e = .returned (.agg #[fi (kindN (lex s q).kind), fi ((lex s q).at_ : Nat), fi ((lex s q).next : Nat), str (textOf s (lex s q))]) ∧ Ext w' w'') := Lib.hid (fun w' h0 h1' => ref_next s hs gr q h1 w' h0 h1')
    by_cases hc : isWord s q wClose
    · have HY : Hid (∀ (S : Nat → Prop) (w0 w : World) (A : Option Addr) (n c : Nat), Mem S w0 [rx gr s q false 0 A n c ((d : Int) + 1)] w → Calls Tryz.prog 43 #[.pointer (some ⟨gr, 0, none⟩), .string ⟨#[41]⟩] w fun e w' => e = .returned (.bool true) ∧ Mem S w0 [rx gr s ((lex s q).next : Nat) false 0 A n c ((d : Int) + 1)] w') := Lib.hid (fun S w0 w A n c M => takes_yes s hs wClose gr q h1 0 _ A n c hc M)
      have HR : Hid (Reads (lang s) false .one d p (.ok n (lex s q).next)) := Lib.hid (by exact Reads.openOk HNW.out HW.out h32 adv_lazy hr hc adv_lazy)
      have hqn : q < (lex s q).next := word_gt hc
      have hbk : (lex s q).kind ≠ .bad := by rcases hc.1 with h | h <;> (rw [h]; simp)
      have hqs : (lex s q).next ≤ s.length := (next_le h1 hbk).2
      clear hr hc hbk
      generalize textOf s (lex s q) = tx2 at *
      generalize kindN (lex s q).kind = k2 at *
      (try dsimp only); (repeat (first | (first | (go_at_call 19; (with_reducible refine (HN2.out _ (M.at_ pk 0 _ rfl) (M.at_ pk 1 _ rfl)).mono ?_); rintro _ w1 ⟨rfl, hX⟩; replace M := M.ext hX; clear hX; dsimp only) | (go_at_call 43; (with_reducible refine (HY.out _ _ _ _ _ _ (M.only tk)).mono ?_); rintro _ w3 ⟨rfl, M1⟩; replace M := M.into tk M1; clear M1; dsimp only [List.cons_append, List.nil_append] at M; dsimp only) | ((with_reducible refine on_store ?_); refine xsA M ?_; clear M; intro w' M; (try simp only [List.take_succ_cons, List.take_zero, List.length_cons, List.length_nil, Nat.reduceAdd, List.drop_succ_cons, List.drop_zero, List.drop_nil, List.cons_append, List.nil_append] at M)) | ((with_reducible refine wl_g ?_); first | go_big_want | go_skip | ((with_reducible refine wl_off (by kernel_rfl) ?_); (first | ((with_reducible refine fastK Tryz.prog rfl ?_); go_big_move) | (with_reducible refine fastN rfl ?_) | skip))) | ((with_reducible refine on_load ?_); (first | refine xl1 M ?_ | refine xlN M ?_); go_big_move) | ((with_reducible refine on_store ?_); (first | refine xs1 M ?_ | refine xsN M ?_); clear M; intro w' M; (try simp only [List.set_cons_zero, List.set_cons_succ] at M)) | ((with_reducible refine on_alloc ?_); refine xa M ?_; clear M; intro g w' M; go_big_move)) | go_values | go_skip | go_guarded | go_step | go_upon))
      (try rw [Exit.noGoto_ret])
      exact ret_n0 rfl rfl ⟨rfl, _, HR.out, hqs, by omega, A', c', M.sub tk⟩
    · have HY : Hid (∀ (S : Nat → Prop) (w0 w : World) (A : Option Addr) (n c : Nat), Mem S w0 [rx gr s q false 0 A n c ((d : Int) + 1)] w → Calls Tryz.prog 43 #[.pointer (some ⟨gr, 0, none⟩), .string ⟨#[41]⟩] w fun e w' => e = .returned (.bool false) ∧ Mem S w0 [rx gr s (q : Int) false 0 A n c ((d : Int) + 1)] w') := Lib.hid (fun S w0 w A n c M => takes_no s hs wClose gr q h1 0 _ A n c hc M)
      have HR : Hid (Reads (lang s) false .one d p (.fail (lex s q).at_)) := Lib.hid (by exact Reads.openNot HNW.out HW.out h32 adv_lazy hr hc)
      have HF := Lib.hid (fun (a : Int) (S : Nat → Prop) (w0 w : World) (M : Mem S w0 [rx gr s q false 0 A' (out ++ flat n).length c' ((d : Int) + 1)] w) => fails_good a M)
      have hlx : (out ++ flat n).length ≤ s.length + 2 * (32 - d) := by rw [List.length_append]; omega
      clear hr hc
      generalize textOf s (lex s q) = tx2 at *
      generalize kindN (lex s q).kind = k2 at *
      (try dsimp only); (repeat (first | (first | (go_at_call 19; (with_reducible refine (HN2.out _ (M.at_ pk 0 _ rfl) (M.at_ pk 1 _ rfl)).mono ?_); rintro _ w1 ⟨rfl, hX⟩; replace M := M.ext hX; clear hX; dsimp only) | (go_at_call 43; (with_reducible refine (HY.out _ _ _ _ _ _ (M.only tk)).mono ?_); rintro _ w3 ⟨rfl, M1⟩; replace M := M.into tk M1; clear M1; dsimp only [List.cons_append, List.nil_append] at M; dsimp only) | (go_at_call 21; (with_reducible refine (HF.out _ _ _ _ (M.only tk)).mono ?_); rintro _ w2 ⟨rfl, M1⟩; replace M := M.into tk M1; clear M1; dsimp only [List.cons_append, List.nil_append] at M; dsimp only) | ((with_reducible refine on_store ?_); refine xsA M ?_; clear M; intro w' M; (try simp only [List.take_succ_cons, List.take_zero, List.length_cons, List.length_nil, Nat.reduceAdd, List.drop_succ_cons, List.drop_zero, List.drop_nil, List.cons_append, List.nil_append] at M)) | ((with_reducible refine wl_g ?_); first | go_big_want | go_skip | ((with_reducible refine wl_off (by kernel_rfl) ?_); (first | ((with_reducible refine fastK Tryz.prog rfl ?_); go_big_move) | (with_reducible refine fastN rfl ?_) | skip))) | ((with_reducible refine on_load ?_); (first | refine xl1 M ?_ | refine xlN M ?_); go_big_move) | ((with_reducible refine on_store ?_); (first | refine xs1 M ?_ | refine xsN M ?_); clear M; intro w' M; (try simp only [List.set_cons_zero, List.set_cons_succ] at M)) | ((with_reducible refine on_alloc ?_); refine xa M ?_; clear M; intro g w' M; go_big_move)) | go_values | go_skip | go_guarded | go_step | go_upon))
      (try rw [Exit.noGoto_ret])
      exact ret_n0 rfl rfl ⟨rfl, _, HR.out, q, A', c', _, h1, hlx, M.sub tk⟩
  | fail a =>
    obtain ⟨q, A', c', out', h1, h2, M1⟩ := hx
    replace M := M.into tk M1
    clear M1
    dsimp only [List.cons_append, List.nil_append] at M
    refine Lib.hid ?_
    have HN2 : Hid (∀ w', w'.cell? ⟨gr, 0, none⟩ = some (str s) → w'.cell? ⟨gr, 1, none⟩ = some (fi (q : Int)) → Calls Tryz.prog 19 #[.pointer (some ⟨gr, 0, none⟩)] w' fun e w'' => e = .returned (.agg #[fi (kindN (lex s q).kind), fi ((lex s q).at_ : Nat), fi ((lex s q).next : Nat), str (textOf s (lex s q))]) ∧ Ext w' w'') := Lib.hid (fun w' h0 h1' => ref_next s hs gr q h1 w' h0 h1')
    have HY : Hid (∀ (S : Nat → Prop) (w0 w : World) (A : Option Addr) (n c : Nat), Mem S w0 [rx gr s q true a A n c ((d : Int) + 1)] w → Calls Tryz.prog 43 #[.pointer (some ⟨gr, 0, none⟩), .string ⟨#[41]⟩] w fun e w' => e = .returned (.bool false) ∧ Mem S w0 [rx gr s (q : Int) true a A n c ((d : Int) + 1)] w') := Lib.hid (fun S w0 w A n c M => takes_bad s hs wClose gr q h1 a _ A n c M)
    have HF := Lib.hid (fun (b : Int) (S : Nat → Prop) (w0 w : World) (M : Mem S w0 [rx gr s q true a A' out'.length c' ((d : Int) + 1)] w) => fails_bad b M)
    have HR : Hid (Reads (lang s) false .one d p (.fail a)) := Lib.hid (by exact Reads.openFail HNW.out HW.out h32 adv_lazy hr)
    clear hr
    generalize textOf s (lex s q) = tx2 at *
    generalize kindN (lex s q).kind = k2 at *
    (try dsimp only); (repeat (first | (first | (go_at_call 19; (with_reducible refine (HN2.out _ (M.at_ pk 0 _ rfl) (M.at_ pk 1 _ rfl)).mono ?_); rintro _ w1 ⟨rfl, hX⟩; replace M := M.ext hX; clear hX; dsimp only) | (go_at_call 43; (with_reducible refine (HY.out _ _ _ _ _ _ (M.only tk)).mono ?_); rintro _ w3 ⟨rfl, M1⟩; replace M := M.into tk M1; clear M1; dsimp only [List.cons_append, List.nil_append] at M; dsimp only) | (go_at_call 21; (with_reducible refine (HF.out _ _ _ _ (M.only tk)).mono ?_); rintro _ w2 ⟨rfl, M1⟩; replace M := M.into tk M1; clear M1; dsimp only [List.cons_append, List.nil_append] at M; dsimp only) | ((with_reducible refine on_store ?_); refine xsA M ?_; clear M; intro w' M; (try simp only [List.take_succ_cons, List.take_zero, List.length_cons, List.length_nil, Nat.reduceAdd, List.drop_succ_cons, List.drop_zero, List.drop_nil, List.cons_append, List.nil_append] at M)) | ((with_reducible refine wl_g ?_); first | go_big_want | go_skip | ((with_reducible refine wl_off (by kernel_rfl) ?_); (first | ((with_reducible refine fastK Tryz.prog rfl ?_); go_big_move) | (with_reducible refine fastN rfl ?_) | skip))) | ((with_reducible refine on_load ?_); (first | refine xl1 M ?_ | refine xlN M ?_); go_big_move) | ((with_reducible refine on_store ?_); (first | refine xs1 M ?_ | refine xsN M ?_); clear M; intro w' M; (try simp only [List.set_cons_zero, List.set_cons_succ] at M)) | ((with_reducible refine on_alloc ?_); refine xa M ?_; clear M; intro g w' M; go_big_move)) | go_values | go_skip | go_guarded | go_step | go_upon))
    (try rw [Exit.noGoto_ret])
    exact ret_n0 rfl rfl ⟨rfl, _, HR.out, q, A', c', _, h1, h2, M.sub tk⟩
end Go.Proofs.YtkblkdnihppmnaaGreatDoor
