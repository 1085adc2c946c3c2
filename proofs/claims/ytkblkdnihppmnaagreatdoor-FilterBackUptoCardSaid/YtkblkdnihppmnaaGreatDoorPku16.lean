/- Parts of this work, one behind the other: FiltT. -/
import Derived.Test.YtkblkdnihppmnaaGreatDoorPku14
/- Filters (layer 21): the program's parser (walk, fourth part): one (printed by gen_t.py). -/
namespace Go.Proofs.YtkblkdnihppmnaaGreatDoor
set_option linter.unusedSimpArgs false
set_option linter.unusedVariables false
open Go.RowKit Res Filt

def TestAt (s : List UInt8) : Prop :=
  ∀ (S : Nat → Prop) (g p : Nat) (d : Int) (w0 w : World), p ≤ s.length → (lex s p).kind ≠ .bad → Mem S w0 [rp g s p d] w → Nv w0 → (∀ b, b < Tryz.prog.globals.size → S b) →
    Calls Tryz.prog 61 #[.pointer (some ⟨g, 0, none⟩)] w fun e w' => RdPost S s g d w0 ((lang s).test true p) e w'
theorem fail_rp {S : Nat → Prop} {s : List UInt8} {g : Nat} {p : Nat} {d : Int} {w0 w : World} (M : Mem S w0 [rp g s p d] w) :
    Calls Tryz.prog 18 #[.pointer (some ⟨g, 0, none⟩)] w fun e w' => e = .panicked (faultAt ((lex s p).at_ : Nat)) ∧ w = w' :=
  fail_any g _ w (M.at_ (by (repeat (first | exact Pick.head | apply Pick.tail)); done) 3 _ rfl)
/-- what one's walk leans on -/
structure OneC (s : List UInt8) (S : Nat → Prop) (g d : Nat) (w0 : World) : Prop where
  isN : ∀ (e : Int) (p : Nat) (w : World) (b : Bool), Mem S w0 [rp g s p e] w → decide (isWord s p wNot) = b → Calls Tryz.prog 38 #[.pointer (some ⟨g, 0, none⟩), .string ⟨#[110, 111, 116]⟩] w fun e w' => e = .returned (.bool b) ∧ w = w'
  isO : ∀ (e : Int) (p : Nat) (w : World) (b : Bool), Mem S w0 [rp g s p e] w → decide (isWord s p wOpen) = b → Calls Tryz.prog 38 #[.pointer (some ⟨g, 0, none⟩), .string ⟨#[40]⟩] w fun e w' => e = .returned (.bool b) ∧ w = w'
  isC : ∀ (e : Int) (p : Nat) (w : World) (b : Bool), Mem S w0 [rp g s p e] w → decide (isWord s p wClose) = b → Calls Tryz.prog 38 #[.pointer (some ⟨g, 0, none⟩), .string ⟨#[41]⟩] w fun e w' => e = .returned (.bool b) ∧ w = w'
  nx : ∀ (e : Int) (p : Nat) (w : World), p ≤ s.length → (lex s p).kind ≠ .bad → Mem S w0 [rp g s p e] w → Calls Tryz.prog 16 #[.pointer (some ⟨g, 0, none⟩)] w (NxPost S s g p e w0)
  fl : ∀ (e : Int) (p : Nat) (w : World), Mem S w0 [rp g s p e] w → Calls Tryz.prog 18 #[.pointer (some ⟨g, 0, none⟩)] w fun e w' => e = .panicked (faultAt ((lex s p).at_ : Nat)) ∧ w = w'
  test : ∀ (p : Nat) (w : World), p ≤ s.length → (lex s p).kind ≠ .bad → Mem S w0 [rp g s p (d : Int)] w → Calls Tryz.prog 61 #[.pointer (some ⟨g, 0, none⟩)] w fun e w' => RdPost S s g (d : Int) w0 ((lang s).test true p) e w'
  one : d ≠ 32 → ∀ (p : Nat) (w : World), p ≤ s.length → (lex s p).kind ≠ .bad → Mem S w0 [rp g s p ((d : Int) + 1)] w → Calls Tryz.prog 49 #[.pointer (some ⟨g, 0, none⟩)] w fun e w' => ∃ r, Reads (lang s) true .one (d + 1) p r ∧ RdPost S s g ((d : Int) + 1) w0 r e w'
  any : d ≠ 32 → ∀ (p : Nat) (w : World), p ≤ s.length → (lex s p).kind ≠ .bad → Mem S w0 [rp g s p ((d : Int) + 1)] w → Calls Tryz.prog 17 #[.pointer (some ⟨g, 0, none⟩)] w fun e w' => ∃ r, Reads (lang s) true .any (d + 1) p r ∧ RdPost S s g ((d : Int) + 1) w0 r e w'
set_option maxRecDepth 100000 in
set_option maxHeartbeats 800000 in
theorem one_test (s : List UInt8) (S : Nat → Prop) (g d : Nat) (w0 : World) (hd : d ≤ 32) (K : OneC s S g d w0) (p : Nat) (w : World) (hp : p ≤ s.length) (hb : (lex s p).kind ≠ .bad) (M : Mem S w0 [rp g s p (d : Int)] w) (h0 : ¬ isWord s p wNot) (h1 : ¬ isWord s p wOpen) :
    Calls Tryz.prog 49 #[.pointer (some ⟨g, 0, none⟩)] w fun e w' => ∃ r, Reads (lang s) true .one d p r ∧ RdPost S s g (d : Int) w0 r e w' := by
  have HN := Lib.hid (K.isN (d : Int))
  have HO := Lib.hid (K.isO (d : Int))
  have HT := Lib.hid K.test
  have H0 := Lib.hid (decide_eq_false h0)
  have H1 := Lib.hid (decide_eq_false h1)
  go_enter Tryz.func49, Tryz.ntmps49
  (try dsimp only); (repeat (first | (first | (go_at_call 38; (first | (with_reducible refine (HN.out _ _ _ M H0.out).mono ?_) | (with_reducible refine (HO.out _ _ _ M H1.out).mono ?_)); rintro _ w1 ⟨rfl, rfl⟩; dsimp only) | (go_at_call 61; (with_reducible refine (HT.out _ _ hp hb M).mono ?_); rintro _ w1 hx; have HR := Reads.test (L := lang s) (e := true) (d := d) h0 h1; obtain ⟨r, hr⟩ : ∃ r, (lang s).test true p = r := ⟨_, rfl⟩; rw [hr] at hx HR; rcases r with ⟨n, q⟩ | ⟨a⟩; rotate_left; (focus (obtain ⟨rfl, cs, M1⟩ := hx; exact ⟨rfl, _, HR, rfl, cs, M1⟩)); obtain ⟨rfl, hq, hbq, M1⟩ := hx; replace M := M1; clear M1; dsimp only) | ((with_reducible refine wl_g ?_); first | go_big_want | go_skip | ((with_reducible refine wl_off (by kernel_rfl) ?_); (first | ((with_reducible refine fastK Tryz.prog rfl ?_); go_big_move) | (with_reducible refine fastN rfl ?_) | skip))) | ((with_reducible refine on_load ?_); (first | refine xl1 M ?_ | refine xlN M ?_); go_big_move) | ((with_reducible refine on_store ?_); (first | refine xs1 M ?_ | refine xsN M ?_); clear M; intro w' M; (try simp only [List.set_cons_zero, List.set_cons_succ] at M)) | ((with_reducible refine on_box ?_); refine xb M ?_; clear M; intro g w' M; go_big_move) | ((with_reducible refine on_alloc ?_); refine xa M ?_; clear M; intro g w' M; go_big_move)) | go_values | go_skip | go_guarded | go_step | go_upon))
  exact ret_m1 rfl (Out.tmp rfl) rfl ⟨_, HR, rfl, hq, hbq, M⟩
set_option maxRecDepth 100000 in
set_option maxHeartbeats 800000 in
theorem one_deepN (s : List UInt8) (S : Nat → Prop) (g d : Nat) (w0 : World) (hd : d ≤ 32) (K : OneC s S g d w0) (p : Nat) (w : World) (hp : p ≤ s.length) (hb : (lex s p).kind ≠ .bad) (M : Mem S w0 [rp g s p (d : Int)] w) (h0 : isWord s p wNot) (hd3 : d = 32) :
    Calls Tryz.prog 49 #[.pointer (some ⟨g, 0, none⟩)] w fun e w' => ∃ r, Reads (lang s) true .one d p r ∧ RdPost S s g (d : Int) w0 r e w' := by
  have HN := Lib.hid (K.isN (d : Int))
  have HO := Lib.hid (K.isO (d : Int))
  have HF := Lib.hid (K.fl (d : Int))
  have hd0 : ((d : Int) == 32) = true := by rw [beq_iff_eq]; omega
  have H0 := Lib.hid (decide_eq_true h0)
  go_enter Tryz.func49, Tryz.ntmps49
  (try dsimp only); (repeat (first | (first | (go_at_call 38; (with_reducible refine (HN.out _ _ _ M H0.out).mono ?_); rintro _ w1 ⟨rfl, rfl⟩; dsimp only) | (go_at_call 18; (with_reducible refine (HF.out _ _ M).mono ?_); rintro _ w1 ⟨rfl, rfl⟩) | ((with_reducible refine wl_g ?_); first | go_big_want | go_skip | ((with_reducible refine wl_off (by kernel_rfl) ?_); (first | ((with_reducible refine fastK Tryz.prog rfl ?_); go_big_move) | (with_reducible refine fastN rfl ?_) | skip))) | ((with_reducible refine on_load ?_); (first | refine xl1 M ?_ | refine xlN M ?_); go_big_move) | ((with_reducible refine on_store ?_); (first | refine xs1 M ?_ | refine xsN M ?_); clear M; intro w' M; (try simp only [List.set_cons_zero, List.set_cons_succ] at M)) | ((with_reducible refine on_box ?_); refine xb M ?_; clear M; intro g w' M; go_big_move) | ((with_reducible refine on_alloc ?_); refine xa M ?_; clear M; intro g w' M; go_big_move)) | go_values | go_skip | go_guarded | go_step | go_upon))
  exact ⟨rfl, _, Reads.deep (.inl h0) hd3, rfl, _, M⟩
set_option maxRecDepth 100000 in
set_option maxHeartbeats 800000 in
theorem one_deepO (s : List UInt8) (S : Nat → Prop) (g d : Nat) (w0 : World) (hd : d ≤ 32) (K : OneC s S g d w0) (p : Nat) (w : World) (hp : p ≤ s.length) (hb : (lex s p).kind ≠ .bad) (M : Mem S w0 [rp g s p (d : Int)] w) (h0 : ¬ isWord s p wNot) (h1 : isWord s p wOpen) (hd3 : d = 32) :
    Calls Tryz.prog 49 #[.pointer (some ⟨g, 0, none⟩)] w fun e w' => ∃ r, Reads (lang s) true .one d p r ∧ RdPost S s g (d : Int) w0 r e w' := by
  have HN := Lib.hid (K.isN (d : Int))
  have HO := Lib.hid (K.isO (d : Int))
  have HF := Lib.hid (K.fl (d : Int))
  have hd0 : ((d : Int) == 32) = true := by rw [beq_iff_eq]; omega
  have H0 := Lib.hid (decide_eq_false h0)
  have H1 := Lib.hid (decide_eq_true h1)
  go_enter Tryz.func49, Tryz.ntmps49
  (try dsimp only); (repeat (first | (first | (go_at_call 38; (first | (with_reducible refine (HN.out _ _ _ M H0.out).mono ?_) | (with_reducible refine (HO.out _ _ _ M H1.out).mono ?_)); rintro _ w1 ⟨rfl, rfl⟩; dsimp only) | (go_at_call 18; (with_reducible refine (HF.out _ _ M).mono ?_); rintro _ w1 ⟨rfl, rfl⟩) | ((with_reducible refine wl_g ?_); first | go_big_want | go_skip | ((with_reducible refine wl_off (by kernel_rfl) ?_); (first | ((with_reducible refine fastK Tryz.prog rfl ?_); go_big_move) | (with_reducible refine fastN rfl ?_) | skip))) | ((with_reducible refine on_load ?_); (first | refine xl1 M ?_ | refine xlN M ?_); go_big_move) | ((with_reducible refine on_store ?_); (first | refine xs1 M ?_ | refine xsN M ?_); clear M; intro w' M; (try simp only [List.set_cons_zero, List.set_cons_succ] at M)) | ((with_reducible refine on_box ?_); refine xb M ?_; clear M; intro g w' M; go_big_move) | ((with_reducible refine on_alloc ?_); refine xa M ?_; clear M; intro g w' M; go_big_move)) | go_values | go_skip | go_guarded | go_step | go_upon))
  exact ⟨rfl, _, Reads.deep (.inr h1) hd3, rfl, _, M⟩
set_option maxRecDepth 100000 in
set_option maxHeartbeats 800000 in
theorem one_not (s : List UInt8) (S : Nat → Prop) (g d : Nat) (w0 : World) (hd : d ≤ 32) (K : OneC s S g d w0) (p : Nat) (w : World) (hp : p ≤ s.length) (hb : (lex s p).kind ≠ .bad) (M : Mem S w0 [rp g s p (d : Int)] w) (h0 : isWord s p wNot) (hd3 : d ≠ 32) :
    Calls Tryz.prog 49 #[.pointer (some ⟨g, 0, none⟩)] w fun e w' => ∃ r, Reads (lang s) true .one d p r ∧ RdPost S s g (d : Int) w0 r e w' := by
  have HN := Lib.hid (K.isN (d : Int))
  have HO := Lib.hid (K.isO (d : Int))
  have HX := Lib.hid (K.nx ((d : Int) + 1))
  have hd0 : ((d : Int) == 32) = false := by rw [beq_eq_false_iff_ne]; omega
  have hd1 : IntKind.i64.wrap ((d : Int) + 1) = (d : Int) + 1 := IntWalk.i64_in _ (by omega)
  have hd2 : IntKind.i64.wrap ((d : Int) + 1 - 1) = (d : Int) := by rw [show (d : Int) + 1 - 1 = d by omega]; exact IntWalk.i64_in _ (by omega)
  have H0 := Lib.hid (decide_eq_true h0)
  have HR := Lib.hid (K.one hd3)
  go_enter Tryz.func49, Tryz.ntmps49
  (try dsimp only); (repeat (first | (first | (go_at_call 38; (with_reducible refine (HN.out _ _ _ M H0.out).mono ?_); rintro _ w1 ⟨rfl, rfl⟩; dsimp only) | (go_at_call 16; (with_reducible refine (HX.out _ _ hp hb M).mono ?_); rintro _ w2 hx; rcases hx with ⟨ha, hq2, hbq2, rfl, M1⟩ | ⟨ha, rfl, cs, M1⟩; rotate_left; (focus (exact ⟨rfl, _, Reads.notBad h0 hd3 ha, rfl, cs, M1⟩)); replace M := M1; clear M1; dsimp only) | (go_at_call 49; (with_reducible refine (HR.out _ _ hq2 hbq2 M).mono ?_); rintro _ w3 ⟨r, hr, hx⟩; rcases r with ⟨n, q⟩ | ⟨a⟩; rotate_left; (focus (obtain ⟨rfl, cs, M1⟩ := hx; exact ⟨rfl, _, Reads.notFail h0 hd3 ha hr, rfl, cs, M1⟩)); obtain ⟨rfl, hq, hbq, M1⟩ := hx; replace M := M1; clear M1; dsimp only; obtain ⟨t2, v2, e2⟩ := ndV_iface n; rw [e2]; have E2 := Lib.hid e2; clear e2) | ((with_reducible refine wl_g ?_); first | go_big_want | go_skip | ((with_reducible refine wl_off (by kernel_rfl) ?_); (first | ((with_reducible refine fastK Tryz.prog rfl ?_); go_big_move) | (with_reducible refine fastN rfl ?_) | skip))) | ((with_reducible refine on_load ?_); (first | refine xl1 M ?_ | refine xlN M ?_); go_big_move) | ((with_reducible refine on_store ?_); (first | refine xs1 M ?_ | refine xsN M ?_); clear M; intro w' M; (try simp only [List.set_cons_zero, List.set_cons_succ] at M)) | ((with_reducible refine on_box ?_); refine xb M ?_; clear M; intro g w' M; go_big_move) | ((with_reducible refine on_alloc ?_); refine xa M ?_; clear M; intro g w' M; go_big_move)) | go_values | go_skip | go_guarded | go_step | go_upon))
  exact ret_m1 rfl (Out.tmp rfl) rfl ⟨_, Reads.notOk h0 hd3 ha hr, by show _ = Ending.returned (ndV (.not n)); unfold ndV; rw [E2.out]; rfl, hq, hbq, M⟩
set_option maxRecDepth 100000 in
set_option maxHeartbeats 800000 in
theorem one_open (s : List UInt8) (S : Nat → Prop) (g d : Nat) (w0 : World) (hd : d ≤ 32) (K : OneC s S g d w0) (p : Nat) (w : World) (hp : p ≤ s.length) (hb : (lex s p).kind ≠ .bad) (M : Mem S w0 [rp g s p (d : Int)] w) (h0 : ¬ isWord s p wNot) (h1 : isWord s p wOpen) (hd3 : d ≠ 32) :
    Calls Tryz.prog 49 #[.pointer (some ⟨g, 0, none⟩)] w fun e w' => ∃ r, Reads (lang s) true .one d p r ∧ RdPost S s g (d : Int) w0 r e w' := by
  have HN := Lib.hid (K.isN (d : Int))
  have HO := Lib.hid (K.isO (d : Int))
  have HX := Lib.hid (K.nx ((d : Int) + 1))
  have hd0 : ((d : Int) == 32) = false := by rw [beq_eq_false_iff_ne]; omega
  have hd1 : IntKind.i64.wrap ((d : Int) + 1) = (d : Int) + 1 := IntWalk.i64_in _ (by omega)
  have hd2 : IntKind.i64.wrap ((d : Int) + 1 - 1) = (d : Int) := by rw [show (d : Int) + 1 - 1 = d by omega]; exact IntWalk.i64_in _ (by omega)
  have H0 := Lib.hid (decide_eq_false h0)
  have H1 := Lib.hid (decide_eq_true h1)
  have HR := Lib.hid (K.any hd3)
  have HC := Lib.hid (K.isC ((d : Int) + 1))
  have HF := Lib.hid (K.fl ((d : Int) + 1))
  have HX2 := Lib.hid (K.nx (d : Int))
  go_enter Tryz.func49, Tryz.ntmps49
  (try dsimp only); (repeat (first | (first | (go_at_call 38; (first | (with_reducible refine (HN.out _ _ _ M H0.out).mono ?_) | (with_reducible refine (HO.out _ _ _ M H1.out).mono ?_) | (with_reducible refine (HC.out _ _ _ M rfl).mono ?_)); rintro _ w1 ⟨rfl, rfl⟩; dsimp only; (try (obtain ⟨b, hcb⟩ : ∃ b, decide (isWord s q wClose) = b := ⟨_, rfl⟩; rw [hcb]; cases b))) | (go_at_call 16; (first | (with_reducible refine (HX.out _ _ hp hb M).mono ?_) | (with_reducible refine (HX2.out _ _ hq hbq M).mono ?_)); rintro _ w2 hx; rcases hx with ⟨ha, hq2, hbq2, rfl, M1⟩ | ⟨ha, rfl, cs, M1⟩; rotate_left; (focus (first | exact ⟨rfl, _, Reads.openClose h0 h1 hd3 hA.out hr hc ha, rfl, cs, M1⟩ | exact ⟨rfl, _, Reads.openBad h0 h1 hd3 ha, rfl, cs, M1⟩)); replace M := M1; clear M1; dsimp only) | (go_at_call 17; (with_reducible refine (HR.out _ _ hq2 hbq2 M).mono ?_); rintro _ w3 ⟨r, hr, hx⟩; rcases r with ⟨n, q⟩ | ⟨a⟩; rotate_left; (focus (obtain ⟨rfl, cs, M1⟩ := hx; exact ⟨rfl, _, Reads.openFail h0 h1 hd3 ha hr, rfl, cs, M1⟩)); obtain ⟨rfl, hq, hbq, M1⟩ := hx; replace M := M1; clear M1; have hA := Lib.hid ha; clear ha hq2 hbq2; dsimp only) | (go_at_call 18; (with_reducible refine (HF.out _ _ M).mono ?_); rintro _ w1 ⟨rfl, rfl⟩) | ((with_reducible refine wl_g ?_); first | go_big_want | go_skip | ((with_reducible refine wl_off (by kernel_rfl) ?_); (first | ((with_reducible refine fastK Tryz.prog rfl ?_); go_big_move) | (with_reducible refine fastN rfl ?_) | skip))) | ((with_reducible refine on_load ?_); (first | refine xl1 M ?_ | refine xlN M ?_); go_big_move) | ((with_reducible refine on_store ?_); (first | refine xs1 M ?_ | refine xsN M ?_); clear M; intro w' M; (try simp only [List.set_cons_zero, List.set_cons_succ] at M)) | ((with_reducible refine on_box ?_); refine xb M ?_; clear M; intro g w' M; go_big_move) | ((with_reducible refine on_alloc ?_); refine xa M ?_; clear M; intro g w' M; go_big_move)) | go_values | go_skip | go_guarded | go_step | go_upon))
  · exact ⟨rfl, _, Reads.openNot h0 h1 hd3 hA.out hr (show ¬ isWord s q wClose from of_decide_eq_false hcb), rfl, _, M⟩
  have hc : isWord s q wClose := of_decide_eq_true hcb
  (try dsimp only); (repeat (first | (first | (go_at_call 16; (first | (with_reducible refine (HX.out _ _ hp hb M).mono ?_) | (with_reducible refine (HX2.out _ _ hq hbq M).mono ?_)); rintro _ w2 hx; rcases hx with ⟨ha, hq2, hbq2, rfl, M1⟩ | ⟨ha, rfl, cs, M1⟩; rotate_left; (focus (first | exact ⟨rfl, _, Reads.openClose h0 h1 hd3 hA.out hr hc ha, rfl, cs, M1⟩ | exact ⟨rfl, _, Reads.openBad h0 h1 hd3 ha, rfl, cs, M1⟩)); replace M := M1; clear M1; dsimp only) | ((with_reducible refine wl_g ?_); first | go_big_want | go_skip | ((with_reducible refine wl_off (by kernel_rfl) ?_); (first | ((with_reducible refine fastK Tryz.prog rfl ?_); go_big_move) | (with_reducible refine fastN rfl ?_) | skip))) | ((with_reducible refine on_load ?_); (first | refine xl1 M ?_ | refine xlN M ?_); go_big_move) | ((with_reducible refine on_store ?_); (first | refine xs1 M ?_ | refine xsN M ?_); clear M; intro w' M; (try simp only [List.set_cons_zero, List.set_cons_succ] at M)) | ((with_reducible refine on_box ?_); refine xb M ?_; clear M; intro g w' M; go_big_move) | ((with_reducible refine on_alloc ?_); refine xa M ?_; clear M; intro g w' M; go_big_move)) | go_values | go_skip | go_guarded | go_step | go_upon))
  exact ret_m1 rfl (Out.tmp rfl) rfl ⟨_, Reads.openOk h0 h1 hd3 hA.out hr hc ha, rfl, hq2, hbq2, M⟩
theorem one_of (s : List UInt8) (hs : s.length ≤ 1048576) (d : Nat) (hd : d ≤ 32) (htest : TestAt s) (hone : d ≠ 32 → At 49 .one s (d + 1)) (hany : d ≠ 32 → At 17 .any s (d + 1)) : At 49 .one s d := by
  intro S g p w0 w hp hb M hN hS
  have hc : ((d + 1 : Nat) : Int) = (d : Int) + 1 := by omega
  have K : OneC s S g d w0 := {
    isN := fun e p w b M h => is_rp s wNot M b h
    isO := fun e p w b M h => is_rp s wOpen M b h
    isC := fun e p w b M h => is_rp s wClose M b h
    nx := fun e p w hp hb M => next_rp s hs hp hb M hN hS
    fl := fun e p w M => fail_rp M
    test := fun p w hp hb M => htest S g p _ w0 w hp hb M hN hS
    one := fun h p w hp hb M => by
      have := hone h S g p w0 w hp hb (by rw [hc]; exact M) hN hS
      rwa [hc] at this
    any := fun h p w hp hb M => by
      have := hany h S g p w0 w hp hb (by rw [hc]; exact M) hN hS
      rwa [hc] at this }
  by_cases h0 : isWord s p wNot
  · by_cases h3 : d = 32
    · exact one_deepN s S g d w0 hd K p w hp hb M h0 h3
    · exact one_not s S g d w0 hd K p w hp hb M h0 h3
  · by_cases h1 : isWord s p wOpen
    · by_cases h3 : d = 32
      · exact one_deepO s S g d w0 hd K p w hp hb M h0 h1 h3
      · exact one_open s S g d w0 hd K p w hp hb M h0 h1 h3
    · exact one_test s S g d w0 hd K p w hp hb M h0 h1
theorem parser_at (s : List UInt8) (hs : s.length ≤ 1048576) (htest : TestAt s) : ∀ (k d : Nat), d + k = 32 → At 49 .one s d ∧ At 17 .any s d
  | 0, d, h => by
    have h1 := one_of s hs d (by omega) htest (fun h2 => absurd (by omega) h2) (fun h2 => absurd (by omega) h2)
    exact ⟨h1, any_of s hs d (all_of s hs d h1)⟩
  | k + 1, d, h => by
    have ih := parser_at s hs htest k (d + 1) (by omega)
    have h1 := one_of s hs d (by omega) htest (fun _ => ih.1) (fun _ => ih.2)
    exact ⟨h1, any_of s hs d (all_of s hs d h1)⟩
end Go.Proofs.YtkblkdnihppmnaaGreatDoor
