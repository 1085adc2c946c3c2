/- Parts of this work, one behind the other: Rfd. -/
import Derived.Test.YtkblkdnihppmnaaGreatDoorPku30
/- Filters (layer 21): the document's reader (walk): what lies in memory; fails, takes. -/
namespace Go.Proofs.YtkblkdnihppmnaaGreatDoor
set_option linter.unusedSimpArgs false
set_option linter.unusedVariables false
open Go.RowKit Res Filt

/-- the document's node as cells -/
def fnV : FN → List Value
  | .num f k n => [fi 0, fi (f : Int), fi (k : Int), fi n, str []]
  | .idt k t => [fi 0, fi 13, fi (k : Int), fi 0, str t]
  | .not => [fi 1, fi 0, fi 0, fi 0, str []]
  | .all => [fi 2, fi 0, fi 0, fi 0, str []]
  | .any => [fi 3, fi 0, fi 0, fi 0, str []]
/-- the document's reader, and its nodes -/
abbrev rx (g : Nat) (s : List UInt8) (p : Int) (bad : Bool) (is_ : Int) (A : Option Addr) (n c : Nat) (d : Int) : Res := bx g 57 [str s, fi p, .bool bad, fi is_, .slice A n c, fi d]
abbrev ro (A : Option Addr) (c : Nat) (out : List FN) : Res := ow 63 fnV 5 A c out
set_option maxRecDepth 100000 in
set_option maxHeartbeats 800000 in
theorem fails_good {S : Nat → Prop} {w0 w : World} {gr : Nat} {s : List UInt8} {p is_ d : Int} {A : Option Addr} {n c : Nat} (a : Int) (M : Mem S w0 [rx gr s p false is_ A n c d] w) :
    Calls Tryz.prog 21 #[.pointer (some ⟨gr, 0, none⟩), fi a] w fun e w' => e = .returned (.tuple #[]) ∧ Mem S w0 [rx gr s p true a A n c d] w' := by
  go_enter Tryz.func21, Tryz.ntmps21
  (try dsimp only); (repeat (first | (first | ((with_reducible refine wl_g ?_); first | go_big_want | go_skip | ((with_reducible refine wl_off (by kernel_rfl) ?_); (first | ((with_reducible refine fastK Tryz.prog rfl ?_); go_big_move) | (with_reducible refine fastN rfl ?_) | skip))) | ((with_reducible refine on_load ?_); (first | refine xl1 M ?_ | refine xlN M ?_); go_big_move) | ((with_reducible refine on_store ?_); (first | refine xs1 M ?_ | refine xsN M ?_); clear M; intro w' M; (try simp only [List.set_cons_zero, List.set_cons_succ] at M)) | ((with_reducible refine on_box ?_); refine xb M ?_; clear M; intro g w' M; go_big_move) | ((with_reducible refine on_alloc ?_); refine xa M ?_; clear M; intro g w' M; go_big_move)) | go_values | go_skip | go_guarded | go_step | go_upon))
  exact ret_n0 rfl rfl ⟨rfl, M⟩
set_option maxRecDepth 100000 in
set_option maxHeartbeats 800000 in
theorem fails_bad {S : Nat → Prop} {w0 w : World} {gr : Nat} {s : List UInt8} {p is_ d : Int} {A : Option Addr} {n c : Nat} (a : Int) (M : Mem S w0 [rx gr s p true is_ A n c d] w) :
    Calls Tryz.prog 21 #[.pointer (some ⟨gr, 0, none⟩), fi a] w fun e w' => e = .returned (.tuple #[]) ∧ Mem S w0 [rx gr s p true is_ A n c d] w' := by
  go_enter Tryz.func21, Tryz.ntmps21
  (try dsimp only); (repeat (first | (first | ((with_reducible refine wl_g ?_); first | go_big_want | go_skip | ((with_reducible refine wl_off (by kernel_rfl) ?_); (first | ((with_reducible refine fastK Tryz.prog rfl ?_); go_big_move) | (with_reducible refine fastN rfl ?_) | skip))) | ((with_reducible refine on_load ?_); (first | refine xl1 M ?_ | refine xlN M ?_); go_big_move) | ((with_reducible refine on_store ?_); (first | refine xs1 M ?_ | refine xsN M ?_); clear M; intro w' M; (try simp only [List.set_cons_zero, List.set_cons_succ] at M)) | ((with_reducible refine on_box ?_); refine xb M ?_; clear M; intro g w' M; go_big_move) | ((with_reducible refine on_alloc ?_); refine xa M ?_; clear M; intro g w' M; go_big_move)) | go_values | go_skip | go_guarded | go_step | go_upon))
  exact ret_n0 rfl rfl ⟨rfl, M⟩
set_option maxRecDepth 100000 in
set_option maxHeartbeats 800000 in
theorem takes_bad (s : List UInt8) (hs : s.length ≤ 1048576) (x : List UInt8) (gr p : Nat) (hp : p ≤ s.length) (is_ d : Int) (A : Option Addr) (n c : Nat)  {S : Nat → Prop} {w0 w : World} (M : Mem S w0 [rx gr s p true is_ A n c d] w) :
    Calls Tryz.prog 43 #[.pointer (some ⟨gr, 0, none⟩), str x] w fun e w' => e = .returned (.bool false) ∧ Mem S w0 [rx gr s (p : Int) true is_ A n c d] w' := by
  have HN : Hid (∀ w', w'.cell? ⟨gr, 0, none⟩ = some (str s) → w'.cell? ⟨gr, 1, none⟩ = some (fi (p : Int)) → Calls Tryz.prog 19 #[.pointer (some ⟨gr, 0, none⟩)] w' fun e w'' => e = .returned (.agg #[fi (kindN (lex s p).kind), fi ((lex s p).at_ : Nat), fi ((lex s p).next : Nat), str (textOf s (lex s p))]) ∧ Ext w' w'') := Lib.hid (fun w' h0 h1 => ref_next s hs gr p hp w' h0 h1)
  skip
  generalize (lex s p).next = nx at *
  generalize textOf s (lex s p) = tx at *
  generalize kindN (lex s p).kind = k at *
  go_enter Tryz.func43, Tryz.ntmps43
  (try dsimp only); (repeat (first | (first | (go_at_call 19; (with_reducible refine (HN.out _ (M.at_ (by (repeat (first | exact Pick.head | apply Pick.tail)); done) 0 _ rfl) (M.at_ (by (repeat (first | exact Pick.head | apply Pick.tail)); done) 1 _ rfl)).mono ?_); rintro _ w1 ⟨rfl, hX⟩; replace M := M.ext hX; clear hX; dsimp only) | ((with_reducible refine wl_g ?_); first | go_big_want | go_skip | ((with_reducible refine wl_off (by kernel_rfl) ?_); (first | ((with_reducible refine fastK Tryz.prog rfl ?_); go_big_move) | (with_reducible refine fastN rfl ?_) | skip))) | ((with_reducible refine on_load ?_); (first | refine xl1 M ?_ | refine xlN M ?_); go_big_move) | ((with_reducible refine on_store ?_); (first | refine xs1 M ?_ | refine xsN M ?_); clear M; intro w' M; (try simp only [List.set_cons_zero, List.set_cons_succ] at M)) | ((with_reducible refine on_box ?_); refine xb M ?_; clear M; intro g w' M; go_big_move) | ((with_reducible refine on_alloc ?_); refine xa M ?_; clear M; intro g w' M; go_big_move)) | go_values | go_skip | go_guarded | go_step | go_upon))
  exact ret_m1 rfl (Out.tmp rfl) rfl ⟨rfl, M.sub (by (repeat (first | exact Takes.nil | exact Take.head | apply Take.tail | apply Takes.cons)); done)⟩
set_option maxRecDepth 100000 in
set_option maxHeartbeats 800000 in
theorem takes_word (s : List UInt8) (hs : s.length ≤ 1048576) (x : List UInt8) (gr p : Nat) (hp : p ≤ s.length) (is_ d : Int) (A : Option Addr) (n c : Nat) (h1 : (kindN (lex s p).kind != 1) = false) (h3 : (!(textOf s (lex s p) == x)) = false) {S : Nat → Prop} {w0 w : World} (M : Mem S w0 [rx gr s p false is_ A n c d] w) :
    Calls Tryz.prog 43 #[.pointer (some ⟨gr, 0, none⟩), str x] w fun e w' => e = .returned (.bool true) ∧ Mem S w0 [rx gr s ((lex s p).next : Nat) false is_ A n c d] w' := by
  have HN : Hid (∀ w', w'.cell? ⟨gr, 0, none⟩ = some (str s) → w'.cell? ⟨gr, 1, none⟩ = some (fi (p : Int)) → Calls Tryz.prog 19 #[.pointer (some ⟨gr, 0, none⟩)] w' fun e w'' => e = .returned (.agg #[fi (kindN (lex s p).kind), fi ((lex s p).at_ : Nat), fi ((lex s p).next : Nat), str (textOf s (lex s p))]) ∧ Ext w' w'') := Lib.hid (fun w' h0 h1 => ref_next s hs gr p hp w' h0 h1)
  skip
  generalize (lex s p).next = nx at *
  generalize textOf s (lex s p) = tx at *
  generalize kindN (lex s p).kind = k at *
  go_enter Tryz.func43, Tryz.ntmps43
  (try dsimp only); (repeat (first | (first | (go_at_call 19; (with_reducible refine (HN.out _ (M.at_ (by (repeat (first | exact Pick.head | apply Pick.tail)); done) 0 _ rfl) (M.at_ (by (repeat (first | exact Pick.head | apply Pick.tail)); done) 1 _ rfl)).mono ?_); rintro _ w1 ⟨rfl, hX⟩; replace M := M.ext hX; clear hX; dsimp only) | ((with_reducible refine wl_g ?_); first | go_big_want | go_skip | ((with_reducible refine wl_off (by kernel_rfl) ?_); (first | ((with_reducible refine fastK Tryz.prog rfl ?_); go_big_move) | (with_reducible refine fastN rfl ?_) | skip))) | ((with_reducible refine on_load ?_); (first | refine xl1 M ?_ | refine xlN M ?_); go_big_move) | ((with_reducible refine on_store ?_); (first | refine xs1 M ?_ | refine xsN M ?_); clear M; intro w' M; (try simp only [List.set_cons_zero, List.set_cons_succ] at M)) | ((with_reducible refine on_box ?_); refine xb M ?_; clear M; intro g w' M; go_big_move) | ((with_reducible refine on_alloc ?_); refine xa M ?_; clear M; intro g w' M; go_big_move)) | go_values | go_skip | go_guarded | go_step | go_upon))
  exact ret_m1 rfl (Out.tmp rfl) rfl ⟨rfl, M.sub (by (repeat (first | exact Takes.nil | exact Take.head | apply Take.tail | apply Takes.cons)); done)⟩
set_option maxRecDepth 100000 in
set_option maxHeartbeats 800000 in
theorem takes_mark (s : List UInt8) (hs : s.length ≤ 1048576) (x : List UInt8) (gr p : Nat) (hp : p ≤ s.length) (is_ d : Int) (A : Option Addr) (n c : Nat) (h1 : (kindN (lex s p).kind != 1) = true) (h2 : (kindN (lex s p).kind != 4) = false) (h3 : (!(textOf s (lex s p) == x)) = false) {S : Nat → Prop} {w0 w : World} (M : Mem S w0 [rx gr s p false is_ A n c d] w) :
    Calls Tryz.prog 43 #[.pointer (some ⟨gr, 0, none⟩), str x] w fun e w' => e = .returned (.bool true) ∧ Mem S w0 [rx gr s ((lex s p).next : Nat) false is_ A n c d] w' := by
  have HN : Hid (∀ w', w'.cell? ⟨gr, 0, none⟩ = some (str s) → w'.cell? ⟨gr, 1, none⟩ = some (fi (p : Int)) → Calls Tryz.prog 19 #[.pointer (some ⟨gr, 0, none⟩)] w' fun e w'' => e = .returned (.agg #[fi (kindN (lex s p).kind), fi ((lex s p).at_ : Nat), fi ((lex s p).next : Nat), str (textOf s (lex s p))]) ∧ Ext w' w'') := Lib.hid (fun w' h0 h1 => ref_next s hs gr p hp w' h0 h1)
  skip
  generalize (lex s p).next = nx at *
  generalize textOf s (lex s p) = tx at *
  generalize kindN (lex s p).kind = k at *
  go_enter Tryz.func43, Tryz.ntmps43
  (try dsimp only); (repeat (first | (first | (go_at_call 19; (with_reducible refine (HN.out _ (M.at_ (by (repeat (first | exact Pick.head | apply Pick.tail)); done) 0 _ rfl) (M.at_ (by (repeat (first | exact Pick.head | apply Pick.tail)); done) 1 _ rfl)).mono ?_); rintro _ w1 ⟨rfl, hX⟩; replace M := M.ext hX; clear hX; dsimp only) | ((with_reducible refine wl_g ?_); first | go_big_want | go_skip | ((with_reducible refine wl_off (by kernel_rfl) ?_); (first | ((with_reducible refine fastK Tryz.prog rfl ?_); go_big_move) | (with_reducible refine fastN rfl ?_) | skip))) | ((with_reducible refine on_load ?_); (first | refine xl1 M ?_ | refine xlN M ?_); go_big_move) | ((with_reducible refine on_store ?_); (first | refine xs1 M ?_ | refine xsN M ?_); clear M; intro w' M; (try simp only [List.set_cons_zero, List.set_cons_succ] at M)) | ((with_reducible refine on_box ?_); refine xb M ?_; clear M; intro g w' M; go_big_move) | ((with_reducible refine on_alloc ?_); refine xa M ?_; clear M; intro g w' M; go_big_move)) | go_values | go_skip | go_guarded | go_step | go_upon))
  exact ret_m1 rfl (Out.tmp rfl) rfl ⟨rfl, M.sub (by (repeat (first | exact Takes.nil | exact Take.head | apply Take.tail | apply Takes.cons)); done)⟩
set_option maxRecDepth 100000 in
set_option maxHeartbeats 800000 in
theorem takes_kind (s : List UInt8) (hs : s.length ≤ 1048576) (x : List UInt8) (gr p : Nat) (hp : p ≤ s.length) (is_ d : Int) (A : Option Addr) (n c : Nat) (h1 : (kindN (lex s p).kind != 1) = true) (h2 : (kindN (lex s p).kind != 4) = true) {S : Nat → Prop} {w0 w : World} (M : Mem S w0 [rx gr s p false is_ A n c d] w) :
    Calls Tryz.prog 43 #[.pointer (some ⟨gr, 0, none⟩), str x] w fun e w' => e = .returned (.bool false) ∧ Mem S w0 [rx gr s (p : Int) false is_ A n c d] w' := by
  have HN : Hid (∀ w', w'.cell? ⟨gr, 0, none⟩ = some (str s) → w'.cell? ⟨gr, 1, none⟩ = some (fi (p : Int)) → Calls Tryz.prog 19 #[.pointer (some ⟨gr, 0, none⟩)] w' fun e w'' => e = .returned (.agg #[fi (kindN (lex s p).kind), fi ((lex s p).at_ : Nat), fi ((lex s p).next : Nat), str (textOf s (lex s p))]) ∧ Ext w' w'') := Lib.hid (fun w' h0 h1 => ref_next s hs gr p hp w' h0 h1)
  skip
  generalize (lex s p).next = nx at *
  generalize textOf s (lex s p) = tx at *
  generalize kindN (lex s p).kind = k at *
  go_enter Tryz.func43, Tryz.ntmps43
  (try dsimp only); (repeat (first | (first | (go_at_call 19; (with_reducible refine (HN.out _ (M.at_ (by (repeat (first | exact Pick.head | apply Pick.tail)); done) 0 _ rfl) (M.at_ (by (repeat (first | exact Pick.head | apply Pick.tail)); done) 1 _ rfl)).mono ?_); rintro _ w1 ⟨rfl, hX⟩; replace M := M.ext hX; clear hX; dsimp only) | ((with_reducible refine wl_g ?_); first | go_big_want | go_skip | ((with_reducible refine wl_off (by kernel_rfl) ?_); (first | ((with_reducible refine fastK Tryz.prog rfl ?_); go_big_move) | (with_reducible refine fastN rfl ?_) | skip))) | ((with_reducible refine on_load ?_); (first | refine xl1 M ?_ | refine xlN M ?_); go_big_move) | ((with_reducible refine on_store ?_); (first | refine xs1 M ?_ | refine xsN M ?_); clear M; intro w' M; (try simp only [List.set_cons_zero, List.set_cons_succ] at M)) | ((with_reducible refine on_box ?_); refine xb M ?_; clear M; intro g w' M; go_big_move) | ((with_reducible refine on_alloc ?_); refine xa M ?_; clear M; intro g w' M; go_big_move)) | go_values | go_skip | go_guarded | go_step | go_upon))
  exact ret_m1 rfl (Out.tmp rfl) rfl ⟨rfl, M.sub (by (repeat (first | exact Takes.nil | exact Take.head | apply Take.tail | apply Takes.cons)); done)⟩
set_option maxRecDepth 100000 in
set_option maxHeartbeats 800000 in
theorem takes_word_no (s : List UInt8) (hs : s.length ≤ 1048576) (x : List UInt8) (gr p : Nat) (hp : p ≤ s.length) (is_ d : Int) (A : Option Addr) (n c : Nat) (h1 : (kindN (lex s p).kind != 1) = false) (h3 : (!(textOf s (lex s p) == x)) = true) {S : Nat → Prop} {w0 w : World} (M : Mem S w0 [rx gr s p false is_ A n c d] w) :
    Calls Tryz.prog 43 #[.pointer (some ⟨gr, 0, none⟩), str x] w fun e w' => e = .returned (.bool false) ∧ Mem S w0 [rx gr s (p : Int) false is_ A n c d] w' := by
  have HN : Hid (∀ w', w'.cell? ⟨gr, 0, none⟩ = some (str s) → w'.cell? ⟨gr, 1, none⟩ = some (fi (p : Int)) → Calls Tryz.prog 19 #[.pointer (some ⟨gr, 0, none⟩)] w' fun e w'' => e = .returned (.agg #[fi (kindN (lex s p).kind), fi ((lex s p).at_ : Nat), fi ((lex s p).next : Nat), str (textOf s (lex s p))]) ∧ Ext w' w'') := Lib.hid (fun w' h0 h1 => ref_next s hs gr p hp w' h0 h1)
  skip
  generalize (lex s p).next = nx at *
  generalize textOf s (lex s p) = tx at *
  generalize kindN (lex s p).kind = k at *
  go_enter Tryz.func43, Tryz.ntmps43
  (try dsimp only); (repeat (first | (first | (go_at_call 19; (with_reducible refine (HN.out _ (M.at_ (by (repeat (first | exact Pick.head | apply Pick.tail)); done) 0 _ rfl) (M.at_ (by (repeat (first | exact Pick.head | apply Pick.tail)); done) 1 _ rfl)).mono ?_); rintro _ w1 ⟨rfl, hX⟩; replace M := M.ext hX; clear hX; dsimp only) | ((with_reducible refine wl_g ?_); first | go_big_want | go_skip | ((with_reducible refine wl_off (by kernel_rfl) ?_); (first | ((with_reducible refine fastK Tryz.prog rfl ?_); go_big_move) | (with_reducible refine fastN rfl ?_) | skip))) | ((with_reducible refine on_load ?_); (first | refine xl1 M ?_ | refine xlN M ?_); go_big_move) | ((with_reducible refine on_store ?_); (first | refine xs1 M ?_ | refine xsN M ?_); clear M; intro w' M; (try simp only [List.set_cons_zero, List.set_cons_succ] at M)) | ((with_reducible refine on_box ?_); refine xb M ?_; clear M; intro g w' M; go_big_move) | ((with_reducible refine on_alloc ?_); refine xa M ?_; clear M; intro g w' M; go_big_move)) | go_values | go_skip | go_guarded | go_step | go_upon))
  exact ret_m1 rfl (Out.tmp rfl) rfl ⟨rfl, M.sub (by (repeat (first | exact Takes.nil | exact Take.head | apply Take.tail | apply Takes.cons)); done)⟩
set_option maxRecDepth 100000 in
set_option maxHeartbeats 800000 in
theorem takes_mark_no (s : List UInt8) (hs : s.length ≤ 1048576) (x : List UInt8) (gr p : Nat) (hp : p ≤ s.length) (is_ d : Int) (A : Option Addr) (n c : Nat) (h1 : (kindN (lex s p).kind != 1) = true) (h2 : (kindN (lex s p).kind != 4) = false) (h3 : (!(textOf s (lex s p) == x)) = true) {S : Nat → Prop} {w0 w : World} (M : Mem S w0 [rx gr s p false is_ A n c d] w) :
    Calls Tryz.prog 43 #[.pointer (some ⟨gr, 0, none⟩), str x] w fun e w' => e = .returned (.bool false) ∧ Mem S w0 [rx gr s (p : Int) false is_ A n c d] w' := by
  have HN : Hid (∀ w', w'.cell? ⟨gr, 0, none⟩ = some (str s) → w'.cell? ⟨gr, 1, none⟩ = some (fi (p : Int)) → Calls Tryz.prog 19 #[.pointer (some ⟨gr, 0, none⟩)] w' fun e w'' => e = .returned (.agg #[fi (kindN (lex s p).kind), fi ((lex s p).at_ : Nat), fi ((lex s p).next : Nat), str (textOf s (lex s p))]) ∧ Ext w' w'') := Lib.hid (fun w' h0 h1 => ref_next s hs gr p hp w' h0 h1)
  skip
  generalize (lex s p).next = nx at *
  generalize textOf s (lex s p) = tx at *
  generalize kindN (lex s p).kind = k at *
  go_enter Tryz.func43, Tryz.ntmps43
  (try dsimp only); (repeat (first | (first | (go_at_call 19; (with_reducible refine (HN.out _ (M.at_ (by (repeat (first | exact Pick.head | apply Pick.tail)); done) 0 _ rfl) (M.at_ (by (repeat (first | exact Pick.head | apply Pick.tail)); done) 1 _ rfl)).mono ?_); rintro _ w1 ⟨rfl, hX⟩; replace M := M.ext hX; clear hX; dsimp only) | ((with_reducible refine wl_g ?_); first | go_big_want | go_skip | ((with_reducible refine wl_off (by kernel_rfl) ?_); (first | ((with_reducible refine fastK Tryz.prog rfl ?_); go_big_move) | (with_reducible refine fastN rfl ?_) | skip))) | ((with_reducible refine on_load ?_); (first | refine xl1 M ?_ | refine xlN M ?_); go_big_move) | ((with_reducible refine on_store ?_); (first | refine xs1 M ?_ | refine xsN M ?_); clear M; intro w' M; (try simp only [List.set_cons_zero, List.set_cons_succ] at M)) | ((with_reducible refine on_box ?_); refine xb M ?_; clear M; intro g w' M; go_big_move) | ((with_reducible refine on_alloc ?_); refine xa M ?_; clear M; intro g w' M; go_big_move)) | go_values | go_skip | go_guarded | go_step | go_upon))
  exact ret_m1 rfl (Out.tmp rfl) rfl ⟨rfl, M.sub (by (repeat (first | exact Takes.nil | exact Take.head | apply Take.tail | apply Takes.cons)); done)⟩
theorem takes_yes (s : List UInt8) (hs : s.length ≤ 1048576) (x : List UInt8) (gr p : Nat) (hp : p ≤ s.length) (is_ d : Int) (A : Option Addr) (n c : Nat) (h : isWord s p x) {S : Nat → Prop} {w0 w : World} (M : Mem S w0 [rx gr s p false is_ A n c d] w) :
    Calls Tryz.prog 43 #[.pointer (some ⟨gr, 0, none⟩), str x] w fun e w' => e = .returned (.bool true) ∧ Mem S w0 [rx gr s ((lex s p).next : Nat) false is_ A n c d] w' := by
  have h3 : (!(textOf s (lex s p) == x)) = false := by simpa using h.2
  rcases h.1 with hk | hk
  · exact takes_word s hs x gr p hp is_ d A n c (by rw [hk]; rfl) h3 M
  · exact takes_mark s hs x gr p hp is_ d A n c (by rw [hk]; rfl) (by rw [hk]; rfl) h3 M
theorem takes_no (s : List UInt8) (hs : s.length ≤ 1048576) (x : List UInt8) (gr p : Nat) (hp : p ≤ s.length) (is_ d : Int) (A : Option Addr) (n c : Nat) (h : ¬ isWord s p x) {S : Nat → Prop} {w0 w : World} (M : Mem S w0 [rx gr s p false is_ A n c d] w) :
    Calls Tryz.prog 43 #[.pointer (some ⟨gr, 0, none⟩), str x] w fun e w' => e = .returned (.bool false) ∧ Mem S w0 [rx gr s (p : Int) false is_ A n c d] w' := by
  by_cases hx : textOf s (lex s p) = x
  · have h1 : (lex s p).kind ≠ .word := fun e => h ⟨.inl e, hx⟩
    have h2 : (lex s p).kind ≠ .mark := fun e => h ⟨.inr e, hx⟩
    refine takes_kind s hs x gr p hp is_ d A n c ?_ ?_ M
    · cases hk : (lex s p).kind <;> simp [kindN, hk] at h1 h2 ⊢
    · cases hk : (lex s p).kind <;> simp [kindN, hk] at h1 h2 ⊢
  · have h3 : (!(textOf s (lex s p) == x)) = true := by simpa using hx
    by_cases h1 : (lex s p).kind = .word
    · exact takes_word_no s hs x gr p hp is_ d A n c (by rw [h1]; rfl) h3 M
    by_cases h2 : (lex s p).kind = .mark
    · exact takes_mark_no s hs x gr p hp is_ d A n c (by rw [h2]; rfl) (by rw [h2]; rfl) h3 M
    refine takes_kind s hs x gr p hp is_ d A n c ?_ ?_ M
    · cases hk : (lex s p).kind <;> simp [kindN, hk] at h1 h2 ⊢
    · cases hk : (lex s p).kind <;> simp [kindN, hk] at h1 h2 ⊢
end Go.Proofs.YtkblkdnihppmnaaGreatDoor
