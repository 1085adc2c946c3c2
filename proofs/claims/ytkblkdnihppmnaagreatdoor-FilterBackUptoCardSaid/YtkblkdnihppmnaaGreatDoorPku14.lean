/- Parts of this work, one behind the other: FiltR, FiltY, FiltYb, FiltYc, FiltS, Rfb. -/
import Derived.Deep.CutRange
import Derived.Test.YtkblkdnihppmnaaGreatDoorPku13
import Derived.Test.YtkblkdnihppmnaaGreatDoorPku1
/- Filters (layer 21): the program's parser (walk, second part): what its functions hand back; the next token. -/
namespace Go.Proofs.YtkblkdnihppmnaaGreatDoor
set_option linter.unusedSimpArgs false
set_option linter.unusedVariables false
open Go.RowKit Res Filt

/-- a filter's part as the program has it -/
def ndV : Nd → Value
  | .num f k n => .iface 119 (.agg #[str (fieldNames.getD f []), str (askNames.getD k []), fi n])
  | .idt k t => .iface 117 (.agg #[str (askNames.getD k []), str t])
  | .not n => .iface 102 (.agg #[ndV n])
  | .all a b => .iface 87 (.agg #[ndV a, ndV b])
  | .any a b => .iface 80 (.agg #[ndV a, ndV b])
/-- the reader, the token at p at hand -/
abbrev rp (g : Nat) (s : List UInt8) (p : Nat) (d : Int) : Res := rd g s ((lex s p).next : Nat) (kindN (lex s p).kind) ((lex s p).at_ : Nat) (textOf s (lex s p)) d
theorem Mem.re {S : Nat → Prop} {w0 w : World} {l : List Res} (M : Mem S w0 l w) : Mem S w l w := ⟨Fr.refl w, fun x h => Nat.lt_of_lt_of_le (M.lo x h) M.fr.size, M.all, M.out, M.apart⟩
theorem Mem.on {S : Nat → Prop} {w0 w w' : World} {l l' : List Res} (M : Mem S w0 l w) (M' : Mem S w l' w') : Mem S w0 l' w' := ⟨M.fr.trans M'.fr, M.lo, M'.all, M'.out, M'.apart⟩
def NxPost (S : Nat → Prop) (s : List UInt8) (g p : Nat) (d : Int) (w0 : World) (e : Ending) (w' : World) : Prop :=
  ((lang s).adv true p = .ok (lex s p).next ∧ (lex s p).next ≤ s.length ∧ (lex s (lex s p).next).kind ≠ .bad ∧ e = .returned (.tuple #[]) ∧ Mem S w0 [rp g s (lex s p).next d] w') ∨
  ((lang s).adv true p = .error (lex s (lex s p).next).at_ ∧ e = .panicked (faultAt ((lex s (lex s p).next).at_ : Nat)) ∧ ∃ cs, Mem S w0 [bx g 49 cs] w')
theorem next_rp (s : List UInt8) (hs : s.length ≤ 1048576) {S : Nat → Prop} {g p : Nat} {d : Int} {w0 w : World} (hp : p ≤ s.length) (hb : (lex s p).kind ≠ .bad) (M : Mem S w0 [rp g s p d] w) (hN : Nv w0) (hS : ∀ b, b < Tryz.prog.globals.size → S b) :
    Calls Tryz.prog 16 #[.pointer (some ⟨g, 0, none⟩)] w (NxPost S s g p d w0) := by
  refine (next_any s hs (lex s p).next (next_le hp hb).2 M.re (hN.mem hS M) hS).mono fun e w' h => ?_
  rcases h with ⟨h1, h2, h3⟩ | ⟨h1, h2, cs, h3⟩
  · refine .inl ⟨?_, (next_le hp hb).2, h1, h2, M.on h3⟩
    show advG (isBad s) (nextOf s) (atOf s) true p = _
    unfold advG
    exact if_neg (fun x => h1 x.2)
  · refine .inr ⟨?_, h2, cs, M.on h3⟩
    show advG (isBad s) (nextOf s) (atOf s) true p = _
    unfold advG
    exact if_pos ⟨rfl, h1⟩
def RdPost (S : Nat → Prop) (s : List UInt8) (g : Nat) (d : Int) (w0 : World) : Filt.Res → Ending → World → Prop
  | .ok n q, e, w' => e = .returned (ndV n) ∧ q ≤ s.length ∧ (lex s q).kind ≠ .bad ∧ Mem S w0 [rp g s q d] w'
  | .fail a, e, w' => e = .panicked (faultAt (a : Nat)) ∧ ∃ cs, Mem S w0 [bx g 49 cs] w'
def At (f : FuncId) (nt : NT) (s : List UInt8) (d : Nat) : Prop :=
  ∀ (S : Nat → Prop) (g p : Nat) (w0 w : World), p ≤ s.length → (lex s p).kind ≠ .bad → Mem S w0 [rp g s p (d : Int)] w → Nv w0 → (∀ b, b < Tryz.prog.globals.size → S b) →
    Calls Tryz.prog f #[.pointer (some ⟨g, 0, none⟩)] w fun e w' => ∃ r, Reads (lang s) true nt d p r ∧ RdPost S s g (d : Int) w0 r e w'
instance isWordDec (s : List UInt8) (p : Nat) (x : List UInt8) : Decidable (isWord s p x) := inferInstanceAs (Decidable (((lex s p).kind = .word ∨ (lex s p).kind = .mark) ∧ textOf s (lex s p) = x))
theorem is_rp (s x : List UInt8) {S : Nat → Prop} {g p : Nat} {d : Int} {w0 w : World} (M : Mem S w0 [rp g s p d] w) (b : Bool) (hb : decide (isWord s p x) = b) :
    Calls Tryz.prog 38 #[.pointer (some ⟨g, 0, none⟩), str x] w fun e w' => e = .returned (.bool b) ∧ w = w' := by
  have e : decide (isWord s p x) = decide (((lex s p).kind = .word ∨ (lex s p).kind = .mark) ∧ textOf s (lex s p) = x) := rfl
  rw [← hb, e]
  exact is_any g _ _ x w (M.at_ (by (repeat (first | exact Pick.head | apply Pick.tail)); done) 2 _ rfl) (M.at_ (by (repeat (first | exact Pick.head | apply Pick.tail)); done) 4 _ rfl)
end Go.Proofs.YtkblkdnihppmnaaGreatDoor
/- Filters (layer 21): what a part holds of (walk, first part): compares. -/
namespace Go.Proofs.YtkblkdnihppmnaaGreatDoor
set_option linter.unusedSimpArgs false
set_option linter.unusedVariables false
open Go.RowKit Res Filt

/-- whether what is compared stands so -/
def cmpAsk : Nat → Int → Bool
  | 0, o => o == 0
  | 1, o => o != 0
  | 2, o => decide (o < 0)
  | 3, o => decide (o ≤ 0)
  | 4, o => decide (0 < o)
  | _, o => decide (0 ≤ o)
set_option maxRecDepth 100000 in
set_option maxHeartbeats 800000 in
theorem compares_any (k : Nat) (hk : k < 6) (o : Int) (w : World) : Calls Tryz.prog 131 #[str (askNames.getD k []), fi o] w fun e w' => e = .returned (.bool (cmpAsk k o)) ∧ w = w' := by
  have M := Mem.start w
  match k, hk with
  | 0, _ =>
    show Calls Tryz.prog 131 #[.string ⟨#[61]⟩, fi o] w _
    go_enter Tryz.func131, Tryz.ntmps131
    (try dsimp only); (repeat (first | (first | ((with_reducible refine wl_g ?_); first | go_big_want | go_skip | ((with_reducible refine wl_off (by kernel_rfl) ?_); (first | ((with_reducible refine fastK Tryz.prog rfl ?_); go_big_move) | (with_reducible refine fastN rfl ?_) | skip))) | ((with_reducible refine on_load ?_); (first | refine xl1 M ?_ | refine xlN M ?_); go_big_move) | ((with_reducible refine on_store ?_); (first | refine xs1 M ?_ | refine xsN M ?_); clear M; intro w' M; (try simp only [List.set_cons_zero, List.set_cons_succ] at M)) | ((with_reducible refine on_box ?_); refine xb M ?_; clear M; intro g w' M; go_big_move) | ((with_reducible refine on_alloc ?_); refine xa M ?_; clear M; intro g w' M; go_big_move)) | go_values | go_skip | go_guarded | go_step | go_upon))
    exact ret_m1 rfl (Out.tmp rfl) rfl ⟨rfl, rfl⟩
  | 1, _ =>
    show Calls Tryz.prog 131 #[.string ⟨#[33, 61]⟩, fi o] w _
    go_enter Tryz.func131, Tryz.ntmps131
    (try dsimp only); (repeat (first | (first | ((with_reducible refine wl_g ?_); first | go_big_want | go_skip | ((with_reducible refine wl_off (by kernel_rfl) ?_); (first | ((with_reducible refine fastK Tryz.prog rfl ?_); go_big_move) | (with_reducible refine fastN rfl ?_) | skip))) | ((with_reducible refine on_load ?_); (first | refine xl1 M ?_ | refine xlN M ?_); go_big_move) | ((with_reducible refine on_store ?_); (first | refine xs1 M ?_ | refine xsN M ?_); clear M; intro w' M; (try simp only [List.set_cons_zero, List.set_cons_succ] at M)) | ((with_reducible refine on_box ?_); refine xb M ?_; clear M; intro g w' M; go_big_move) | ((with_reducible refine on_alloc ?_); refine xa M ?_; clear M; intro g w' M; go_big_move)) | go_values | go_skip | go_guarded | go_step | go_upon))
    exact ret_m1 rfl (Out.tmp rfl) rfl ⟨rfl, rfl⟩
  | 2, _ =>
    show Calls Tryz.prog 131 #[.string ⟨#[60]⟩, fi o] w _
    go_enter Tryz.func131, Tryz.ntmps131
    (try dsimp only); (repeat (first | (first | ((with_reducible refine wl_g ?_); first | go_big_want | go_skip | ((with_reducible refine wl_off (by kernel_rfl) ?_); (first | ((with_reducible refine fastK Tryz.prog rfl ?_); go_big_move) | (with_reducible refine fastN rfl ?_) | skip))) | ((with_reducible refine on_load ?_); (first | refine xl1 M ?_ | refine xlN M ?_); go_big_move) | ((with_reducible refine on_store ?_); (first | refine xs1 M ?_ | refine xsN M ?_); clear M; intro w' M; (try simp only [List.set_cons_zero, List.set_cons_succ] at M)) | ((with_reducible refine on_box ?_); refine xb M ?_; clear M; intro g w' M; go_big_move) | ((with_reducible refine on_alloc ?_); refine xa M ?_; clear M; intro g w' M; go_big_move)) | go_values | go_skip | go_guarded | go_step | go_upon))
    exact ret_m1 rfl (Out.tmp rfl) rfl ⟨rfl, rfl⟩
  | 3, _ =>
    show Calls Tryz.prog 131 #[.string ⟨#[60, 61]⟩, fi o] w _
    go_enter Tryz.func131, Tryz.ntmps131
    (try dsimp only); (repeat (first | (first | ((with_reducible refine wl_g ?_); first | go_big_want | go_skip | ((with_reducible refine wl_off (by kernel_rfl) ?_); (first | ((with_reducible refine fastK Tryz.prog rfl ?_); go_big_move) | (with_reducible refine fastN rfl ?_) | skip))) | ((with_reducible refine on_load ?_); (first | refine xl1 M ?_ | refine xlN M ?_); go_big_move) | ((with_reducible refine on_store ?_); (first | refine xs1 M ?_ | refine xsN M ?_); clear M; intro w' M; (try simp only [List.set_cons_zero, List.set_cons_succ] at M)) | ((with_reducible refine on_box ?_); refine xb M ?_; clear M; intro g w' M; go_big_move) | ((with_reducible refine on_alloc ?_); refine xa M ?_; clear M; intro g w' M; go_big_move)) | go_values | go_skip | go_guarded | go_step | go_upon))
    exact ret_m1 rfl (Out.tmp rfl) rfl ⟨rfl, rfl⟩
  | 4, _ =>
    show Calls Tryz.prog 131 #[.string ⟨#[62]⟩, fi o] w _
    go_enter Tryz.func131, Tryz.ntmps131
    (try dsimp only); (repeat (first | (first | ((with_reducible refine wl_g ?_); first | go_big_want | go_skip | ((with_reducible refine wl_off (by kernel_rfl) ?_); (first | ((with_reducible refine fastK Tryz.prog rfl ?_); go_big_move) | (with_reducible refine fastN rfl ?_) | skip))) | ((with_reducible refine on_load ?_); (first | refine xl1 M ?_ | refine xlN M ?_); go_big_move) | ((with_reducible refine on_store ?_); (first | refine xs1 M ?_ | refine xsN M ?_); clear M; intro w' M; (try simp only [List.set_cons_zero, List.set_cons_succ] at M)) | ((with_reducible refine on_box ?_); refine xb M ?_; clear M; intro g w' M; go_big_move) | ((with_reducible refine on_alloc ?_); refine xa M ?_; clear M; intro g w' M; go_big_move)) | go_values | go_skip | go_guarded | go_step | go_upon))
    exact ret_m1 rfl (Out.tmp rfl) rfl ⟨rfl, rfl⟩
  | 5, _ =>
    show Calls Tryz.prog 131 #[.string ⟨#[62, 61]⟩, fi o] w _
    go_enter Tryz.func131, Tryz.ntmps131
    (try dsimp only); (repeat (first | (first | ((with_reducible refine wl_g ?_); first | go_big_want | go_skip | ((with_reducible refine wl_off (by kernel_rfl) ?_); (first | ((with_reducible refine fastK Tryz.prog rfl ?_); go_big_move) | (with_reducible refine fastN rfl ?_) | skip))) | ((with_reducible refine on_load ?_); (first | refine xl1 M ?_ | refine xlN M ?_); go_big_move) | ((with_reducible refine on_store ?_); (first | refine xs1 M ?_ | refine xsN M ?_); clear M; intro w' M; (try simp only [List.set_cons_zero, List.set_cons_succ] at M)) | ((with_reducible refine on_box ?_); refine xb M ?_; clear M; intro g w' M; go_big_move) | ((with_reducible refine on_alloc ?_); refine xa M ?_; clear M; intro g w' M; go_big_move)) | go_values | go_skip | go_guarded | go_step | go_upon))
    exact ret_m1 rfl (Out.tmp rfl) rfl ⟨rfl, rfl⟩
end Go.Proofs.YtkblkdnihppmnaaGreatDoor
/- Filters (layer 21): what a part holds of (walk, third part): the id. -/
namespace Go.Proofs.YtkblkdnihppmnaaGreatDoor
set_option linter.unusedSimpArgs false
set_option linter.unusedVariables false
open Go.RowKit Res Filt

theorem compare_any (a b : List UInt8) (w : World) : Calls Tryz.prog 132 #[str a, str b] w fun e w' => e = .returned (fi (Lib.compareBytes a b)) ∧ w = w' :=
  (Tryz.strings_Compare ⟨a.toArray⟩ ⟨b.toArray⟩ w).mono fun e w' ⟨h1, h2⟩ => ⟨h1, h2.symm⟩
set_option maxRecDepth 100000 in
set_option maxHeartbeats 800000 in
theorem named_calls (k : Nat) (hk : k < 6) (t ids : List UInt8) (k0 k1 k2 k4 k5 k6 k7 k8 k9 k10 k11 k12 k13 k14 k15 k16 : Value) (w : World) :
    Calls Tryz.prog 128 #[.agg #[str (askNames.getD k []), str t], .agg #[k0, k1, k2, str ids, k4, k5, k6, k7, k8, k9, k10, k11, k12, k13, k14, k15, k16]] w fun e w' => e = .returned (.bool (cmpAsk k (Lib.compareBytes ids t))) ∧ Ext w w' := by
  have M := Mem.start w
  have HC := Lib.hid (compare_any ids t)
  have HS := Lib.hid (fun w => compares_any k hk (Lib.compareBytes ids t) w)
  generalize askNames.getD k [] = ask at HS ⊢
  generalize Lib.compareBytes ids t = o at HC HS ⊢
  generalize cmpAsk k o = r at HS ⊢
  clear hk
  go_enter Tryz.func128, Tryz.ntmps128
  (try dsimp only); (repeat (first | (first | ((with_reducible refine on_region 1 ?_); refine wp_region_keep M [2, 3] 9 [(0, true), (1, true), (2, true), (3, true), (4, true), (5, true), (6, false), (7, false), (8, true)] (by kernel_rfl) (by kernel_rfl) (fun _ _ d _ _ h => by cases d <;> exact h) ?_; clear M; intro w' M; ((refine wpSch_q ?_ rfl rfl (fun w' hR => ?_) ?_); rotate_left; (focus (go_simp; first | rfl | rw [if_neg (by simp; omega)] | rw [if_neg (by omega)] | rw [if_pos (by omega)] | (rw [if_pos (by omega)]; simp; done))); (first | simp only [Act.put, List.setIfInBounds_toArray, List.set_cons_zero, List.set_cons_succ] | skip)); ((first | refine zl1 M 2 ?_ | refine zlN M 2 ?_); (first | simp only [Act.put, List.setIfInBounds_toArray, List.set_cons_zero, List.set_cons_succ] | skip)); ((refine wpSch_q ?_ rfl rfl (fun w' hR => ?_) ?_); rotate_left; (focus (go_simp; first | rfl | rw [if_neg (by simp; omega)] | rw [if_neg (by omega)] | rw [if_pos (by omega)] | (rw [if_pos (by omega)]; simp; done))); (first | simp only [Act.put, List.setIfInBounds_toArray, List.set_cons_zero, List.set_cons_succ] | skip)); ((first | refine zl1 M 3 ?_ | refine zlN M 3 ?_); (first | simp only [Act.put, List.setIfInBounds_toArray, List.set_cons_zero, List.set_cons_succ] | skip)); ((refine wpSch_q ?_ rfl rfl (fun w' hR => ?_) ?_); rotate_left; (focus (go_simp; first | rfl | rw [if_neg (by simp; omega)] | rw [if_neg (by omega)] | rw [if_pos (by omega)] | (rw [if_pos (by omega)]; simp; done))); (first | simp only [Act.put, List.setIfInBounds_toArray, List.set_cons_zero, List.set_cons_succ] | skip)); ((first | refine zl1 M 2 ?_ | refine zlN M 2 ?_); (first | simp only [Act.put, List.setIfInBounds_toArray, List.set_cons_zero, List.set_cons_succ] | skip)); (refine wpSch_e rfl rfl (fun K hK => ?_); go_simp; refine (HC.out _).mono ?_; rintro _ w1 ⟨rfl, rfl⟩; refine hK _ _ (fun _ => keepR.refl _) ?_; skip; clear hK K; (first | simp only [Act.put, List.setIfInBounds_toArray, List.set_cons_zero, List.set_cons_succ] | skip)); (refine wpSch_e rfl rfl (fun K hK => ?_); go_simp; refine (HS.out _).mono ?_; rintro _ w1 ⟨rfl, rfl⟩; refine hK _ _ (fun _ => keepR.refl _) ?_; skip; clear hK K; (first | simp only [Act.put, List.setIfInBounds_toArray, List.set_cons_zero, List.set_cons_succ] | skip)); ((refine wpSch_q ?_ rfl rfl (fun w' hR => ?_) ?_); rotate_left; (focus (go_simp; first | rfl | rw [if_neg (by simp; omega)] | rw [if_neg (by omega)] | rw [if_pos (by omega)] | (rw [if_pos (by omega)]; simp; done))); (first | simp only [Act.put, List.setIfInBounds_toArray, List.set_cons_zero, List.set_cons_succ] | skip)); refine wpSch_nil ?_) | ((with_reducible refine wl_g ?_); first | go_big_want | go_skip | ((with_reducible refine wl_off (by kernel_rfl) ?_); (first | ((with_reducible refine fastK Tryz.prog rfl ?_); go_big_move) | (with_reducible refine fastN rfl ?_) | skip))) | ((with_reducible refine on_load ?_); (first | refine xl1 M ?_ | refine xlN M ?_); go_big_move) | ((with_reducible refine on_store ?_); (first | refine xs1 M ?_ | refine xsN M ?_); clear M; intro w' M; (try simp only [List.set_cons_zero, List.set_cons_succ] at M)) | ((with_reducible refine on_box ?_); refine xb M ?_; clear M; intro g w' M; go_big_move) | ((with_reducible refine on_alloc ?_); refine xa M ?_; clear M; intro g w' M; go_big_move)) | go_values | go_skip | go_guarded | go_step | go_upon))
  exact ret_m1 rfl (Out.tmp rfl) rfl ⟨rfl, M.ext_of⟩
end Go.Proofs.YtkblkdnihppmnaaGreatDoor
/- Filters (layer 21): what a part holds of (walk, fourth part): the fields that are numbers. -/
namespace Go.Proofs.YtkblkdnihppmnaaGreatDoor
set_option linter.unusedSimpArgs false
set_option linter.unusedVariables false
open Go.RowKit Res Filt

theorem i64Elem : ElemOf Tryz.prog 178 2 1 8 := elemOf_mk Tryz.underlying178 (z := .int .i64 0) (by kernel_rfl) rfl (by decide)
set_option maxRecDepth 100000 in
set_option maxHeartbeats 800000 in
theorem about_fields (a0 a1 a2 a4 a5 a6 a7 a8 a9 a10 a11 a12 a13 a14 a15 a16 : Int) (id : List UInt8) (w : World) :
    Calls Tryz.prog 138 #[.agg #[fi a0, fi a1, fi a2, str id, fi a4, fi a5, fi a6, fi a7, fi a8, fi a9, fi a10, fi a11, fi a12, fi a13, fi a14, fi a15, fi a16]] w fun e w' => ∃ A c, e = .returned (.slice A 13 c) ∧ Ext w w' ∧ Own w' w.heap.size 2 (fun x : Int => [fi x]) 1 A c [a0, a1, a2, a4, a5, a6, a7, a8, a12, a13, a14, a15, a16] := by
  have M := Mem.start w
  go_enter Tryz.func138, Tryz.ntmps138
  (try dsimp only); (repeat (go_not_at_region 2; first | (first | ((with_reducible refine on_slice ?_); refine wp_slice M i64Elem _ rfl _ (by (repeat (first | exact Parts.nil | (apply Parts.cons; (first | exact CellsOf.agg _ | exact CellsOf.int _ _ | exact CellsOf.str _ | exact CellsOf.bool _ | exact CellsOf.slice _ _ _ | exact CellsOf.pointer _); rfl))); done) (by rfl) (by decide) (by decide) ?_; clear M; intro g w' M; (try simp only [List.cons_append, List.nil_append] at M); (first | ((with_reducible refine fastK Tryz.prog rfl ?_); go_big_move) | (with_reducible refine fastN rfl ?_) | skip)) | ((with_reducible refine wl_g ?_); first | go_big_want | go_skip | ((with_reducible refine wl_off (by kernel_rfl) ?_); (first | ((with_reducible refine fastK Tryz.prog rfl ?_); go_big_move) | (with_reducible refine fastN rfl ?_) | skip))) | ((with_reducible refine on_load ?_); (first | refine xl1 M ?_ | refine xlN M ?_); go_big_move) | ((with_reducible refine on_store ?_); (first | refine xs1 M ?_ | refine xsN M ?_); clear M; intro w' M; (try simp only [List.set_cons_zero, List.set_cons_succ] at M)) | ((with_reducible refine on_box ?_); refine xb M ?_; clear M; intro g w' M; go_big_move) | ((with_reducible refine on_alloc ?_); refine xa M ?_; clear M; intro g w' M; go_big_move)) | go_values | go_skip | go_guarded | go_step | go_upon))
  rename_i gA wA KA aA
  have hO : Own w' 0 2 (fun x : Int => [fi x]) 1 (some ⟨g, 0, none⟩) 9 [a0, a1, a2, a4, a5, a6, a7, a8, a12] := Own.of_block (l := [a0, a1, a2, a4, a5, a6, a7, a8, a12]) (M.box Pick.head) (Nat.zero_le _) (fun _ => rfl) (show 9 ≤ maxLen by decide)
  have hbx := M.box (g := gA) (Pick.tail Pick.head)
  have hR : Row w' 0 w'.heap.size 1 (some ⟨gA, 13, none⟩) 4 (([a13, a14, a15, a16] : List Int).flatMap fun x => [fi x]) := ⟨rfl, fun _ => ⟨gA, 13, rfl, Nat.zero_le _, hbx.lt, fun j u hu => by
    rw [hbx.cell]
    match j, hu with
    | 0, hu => exact hu
    | 1, hu => exact hu
    | 2, hu => exact hu
    | 3, hu => exact hu⟩⟩
  have M2 := M.put Pick.head (Fr.refl _) (ow 2 (fun x : Int => [fi x]) 1 (some ⟨g, 0, none⟩) 9 [a0, a1, a2, a4, a5, a6, a7, a8, a12]) hO (fun b hb => .inl (by injection hb with h; exact h.symm))
  clear M hO hbx
  have M := M2
  clear M2
  (try dsimp only); (repeat (first | (first | ((with_reducible refine on_append ?_); refine wp_appends M i64Elem _ _ rfl rfl (by (repeat (first | exact Pick.head | apply Pick.tail)); done) (by first | with_reducible rfl | (simp; done) | (simp; omega)) ([a13, a14, a15, a16] : List Int) rfl (by first | with_reducible rfl | (simp; done) | (simp; omega)) hR (by first | (intro h; cases h; done) | (intro _; rfl)) (fun _ => rfl) (fun x u hu => by rw [List.mem_singleton] at hu; subst hu; rfl) (by first | omega | (simp; done) | (simp; omega)) (by first | omega | (simp; done) | (simp; omega)) ?_; clear M; intro A' c' w' M; (first | ((with_reducible refine fastK Tryz.prog rfl ?_); go_big_move) | (with_reducible refine fastN rfl ?_) | skip)) | ((with_reducible refine wl_g ?_); first | go_big_want | go_skip | ((with_reducible refine wl_off (by kernel_rfl) ?_); (first | ((with_reducible refine fastK Tryz.prog rfl ?_); go_big_move) | (with_reducible refine fastN rfl ?_) | skip))) | ((with_reducible refine on_load ?_); (first | refine xl1 M ?_ | refine xlN M ?_); go_big_move) | ((with_reducible refine on_store ?_); (first | refine xs1 M ?_ | refine xsN M ?_); clear M; intro w' M; (try simp only [List.set_cons_zero, List.set_cons_succ] at M)) | ((with_reducible refine on_box ?_); refine xb M ?_; clear M; intro g w' M; go_big_move) | ((with_reducible refine on_alloc ?_); refine xa M ?_; clear M; intro g w' M; go_big_move)) | go_values | go_skip | go_guarded | go_step | go_upon))
  exact ret_m1 rfl (Out.tmp rfl) rfl ⟨_, _, rfl, M.ext_of, M.own_new (by (repeat (first | exact Pick.head | apply Pick.tail)); done)⟩
end Go.Proofs.YtkblkdnihppmnaaGreatDoor
/- Filters (layer 21): the program's parser (walk, third part): all, any. -/
namespace Go.Proofs.YtkblkdnihppmnaaGreatDoor
set_option linter.unusedSimpArgs false
set_option linter.unusedVariables false
open Go.RowKit Res Filt

theorem next_bound {s : List UInt8} {p : Nat} (hp : p ≤ s.length) (hb : (lex s p).kind ≠ .bad) : (lex s p).next ≤ s.length := (next_le hp hb).2
theorem ndV_iface (n : Nd) : ∃ t v, ndV n = .iface t v := by
  cases n <;> exact ⟨_, _, rfl⟩
set_option maxRecDepth 100000 in
set_option maxHeartbeats 800000 in
theorem all_of (s : List UInt8) (hs : s.length ≤ 1048576) (d : Nat) (hone : At 49 .one s d) : At 37 .all s d := by
  intro S g p w0 w hp hb M hN hS
  have HO : Hid (∀ (p : Nat) (w : World), p ≤ s.length → (lex s p).kind ≠ .bad → Mem S w0 [rp g s p (d : Int)] w → Calls Tryz.prog 49 #[.pointer (some ⟨g, 0, none⟩)] w fun e w' => ∃ r, Reads (lang s) true .one d p r ∧ RdPost S s g (d : Int) w0 r e w') := Lib.hid (fun p w hp hb M => hone S g p w0 w hp hb M hN hS)
  have HX : Hid (∀ (p : Nat) (w : World), p ≤ s.length → (lex s p).kind ≠ .bad → Mem S w0 [rp g s p (d : Int)] w → Calls Tryz.prog 16 #[.pointer (some ⟨g, 0, none⟩)] w (NxPost S s g p (d : Int) w0)) := Lib.hid (fun p w hp hb M => next_rp s hs hp hb M hN hS)
  have HI : Hid (∀ (p : Nat) (w : World) (b : Bool), Mem S w0 [rp g s p (d : Int)] w → decide (isWord s p wAnd) = b → Calls Tryz.prog 38 #[.pointer (some ⟨g, 0, none⟩), .string ⟨#[97, 110, 100]⟩] w fun e w' => e = .returned (.bool b) ∧ w = w') := Lib.hid (fun p w b M h => is_rp s wAnd M b h)
  clear hone hN hS
  go_enter Tryz.func37, Tryz.ntmps37
  (try dsimp only); (repeat (first | (first | (go_at_call 49; (with_reducible refine (HO.out _ _ hp hb M).mono ?_); rintro _ w1 ⟨r, hr, hx⟩; rcases r with ⟨n, q⟩ | ⟨a⟩; rotate_left; (focus (obtain ⟨rfl, cs, M1⟩ := hx; exact ⟨rfl, _, Reads.allFail hr, rfl, cs, M1⟩)); obtain ⟨rfl, hq, hbq, M1⟩ := hx; replace M := M1; clear M1; dsimp only) | ((with_reducible refine on_load ?_); (first | refine xl1 M ?_ | refine xlN M ?_); go_big_move) | ((with_reducible refine on_store ?_); (first | refine xs1 M ?_ | refine xsN M ?_); clear M; intro w' M; (try simp only [List.set_cons_zero, List.set_cons_succ] at M)) | ((with_reducible refine on_box ?_); refine xb M ?_; clear M; intro g w' M; go_big_move) | ((with_reducible refine on_alloc ?_); refine xa M ?_; clear M; intro g w' M; go_big_move)) | go_values | go_skip | go_guarded | go_step | go_upon))
  have HP := Lib.hid (show ∀ r, Reads (lang s) true (.allMore n) d q r → Reads (lang s) true .all d p r from fun r h => Reads.allOk hr h)
  clear hr
  go_loopw [3] (fun x wr => ∃ (acc : Nd) (q : Nat), x = ndV acc ∧ q ≤ s.length ∧ (lex s q).kind ≠ .bad ∧ Hid (∀ r, Reads (lang s) true (.allMore acc) d q r → Reads (lang s) true .all d p r) ∧ Mem S w0 [rp g s q (d : Int)] wr) (fun _ wr => s.length - (intOf ((wr.cell? ⟨g, 1, none⟩).getD undef)).toNat)
  · exact ⟨n, q, rfl, hq, hbq, HP, M⟩
  · clear M HP hq hbq
    obtain ⟨acc, q, rfl, hq, hbq, HP, M⟩ := hrel
    by_cases hw : isWord s q wAnd
    · have HW := Lib.hid (decide_eq_true hw)
      obtain ⟨t1, v1, e1⟩ := ndV_iface acc
      rw [e1]
      have E1 := Lib.hid e1
      clear e1
      have hc1 : wr.cell? ⟨g, 1, none⟩ = some (fi ((lex s q).next : Nat)) := M.at_ (by (repeat (first | exact Pick.head | apply Pick.tail)); done) 1 _ rfl
      (try dsimp only); (repeat (first | (first | (go_at_call 38; (with_reducible refine (HI.out _ _ _ M HW.out).mono ?_); rintro _ w1 ⟨rfl, rfl⟩; dsimp only) | (go_at_call 16; (with_reducible refine (HX.out _ _ hq hbq M).mono ?_); rintro _ w2 hx; rcases hx with ⟨ha, hq2, hbq2, rfl, M1⟩ | ⟨ha, rfl, cs, M1⟩; rotate_left; (focus (exact ⟨rfl, _, HP.out _ (Reads.allBad hw ha), rfl, cs, M1⟩)); replace M := M1; clear M1; dsimp only) | (go_at_call 49; (with_reducible refine (HO.out _ _ hq2 hbq2 M).mono ?_); rintro _ w3 ⟨r, hr, hx⟩; rcases r with ⟨m, q3⟩ | ⟨a⟩; rotate_left; (focus (obtain ⟨rfl, cs, M1⟩ := hx; exact ⟨rfl, _, HP.out _ (Reads.allNo hw ha hr), rfl, cs, M1⟩)); obtain ⟨rfl, hq3, hbq3, M1⟩ := hx; replace M := M1; clear M1; dsimp only; obtain ⟨t2, v2, e2⟩ := ndV_iface m; rw [e2]; have E2 := Lib.hid e2; clear e2) | ((with_reducible refine on_load ?_); (first | refine xl1 M ?_ | refine xlN M ?_); go_big_move) | ((with_reducible refine on_store ?_); (first | refine xs1 M ?_ | refine xsN M ?_); clear M; intro w' M; (try simp only [List.set_cons_zero, List.set_cons_succ] at M)) | ((with_reducible refine on_box ?_); refine xb M ?_; clear M; intro g w' M; go_big_move) | ((with_reducible refine on_alloc ?_); refine xa M ?_; clear M; intro g w' M; go_big_move)) | go_values | go_skip | go_guarded | go_step | go_upon))
      refine ⟨⟨.all acc m, q3, by rw [← E1.out, ← E2.out]; rfl, hq3, hbq3, Lib.hid (fun r h => HP.out _ (Reads.allMore hw ha hr h)), M⟩, ?_⟩
      have hc3 : w3.cell? ⟨g, 1, none⟩ = some (fi ((lex s q3).next : Nat)) := M.at_ (by (repeat (first | exact Pick.head | apply Pick.tail)); done) 1 _ rfl
      rw [hc1, hc3]
      have h1 := reads_gt hr rfl
      have h2 := next_ge (s := s) q3
      have h3 := next_bound hq3 hbq3
      simp only [NT.step, Option.getD_some, intOf, Int.toNat_natCast] at *
      omega
    · have HW := Lib.hid (decide_eq_false hw)
      (try dsimp only); (repeat (first | (first | (go_at_call 38; (with_reducible refine (HI.out _ _ _ M HW.out).mono ?_); rintro _ w1 ⟨rfl, rfl⟩; dsimp only) | ((with_reducible refine on_load ?_); (first | refine xl1 M ?_ | refine xlN M ?_); go_big_move) | ((with_reducible refine on_store ?_); (first | refine xs1 M ?_ | refine xsN M ?_); clear M; intro w' M; (try simp only [List.set_cons_zero, List.set_cons_succ] at M)) | ((with_reducible refine on_box ?_); refine xb M ?_; clear M; intro g w' M; go_big_move) | ((with_reducible refine on_alloc ?_); refine xa M ?_; clear M; intro g w' M; go_big_move)) | go_values | go_skip | go_guarded | go_step | go_upon))
      exact ret_m1 rfl (Out.tmp rfl) rfl ⟨_, HP.out _ (Reads.allEnd hw), rfl, hq, hbq, M⟩
set_option maxRecDepth 100000 in
set_option maxHeartbeats 800000 in
theorem any_of (s : List UInt8) (hs : s.length ≤ 1048576) (d : Nat) (hone : At 37 .all s d) : At 17 .any s d := by
  intro S g p w0 w hp hb M hN hS
  have HO : Hid (∀ (p : Nat) (w : World), p ≤ s.length → (lex s p).kind ≠ .bad → Mem S w0 [rp g s p (d : Int)] w → Calls Tryz.prog 37 #[.pointer (some ⟨g, 0, none⟩)] w fun e w' => ∃ r, Reads (lang s) true .all d p r ∧ RdPost S s g (d : Int) w0 r e w') := Lib.hid (fun p w hp hb M => hone S g p w0 w hp hb M hN hS)
  have HX : Hid (∀ (p : Nat) (w : World), p ≤ s.length → (lex s p).kind ≠ .bad → Mem S w0 [rp g s p (d : Int)] w → Calls Tryz.prog 16 #[.pointer (some ⟨g, 0, none⟩)] w (NxPost S s g p (d : Int) w0)) := Lib.hid (fun p w hp hb M => next_rp s hs hp hb M hN hS)
  have HI : Hid (∀ (p : Nat) (w : World) (b : Bool), Mem S w0 [rp g s p (d : Int)] w → decide (isWord s p wOr) = b → Calls Tryz.prog 38 #[.pointer (some ⟨g, 0, none⟩), .string ⟨#[111, 114]⟩] w fun e w' => e = .returned (.bool b) ∧ w = w') := Lib.hid (fun p w b M h => is_rp s wOr M b h)
  clear hone hN hS
  go_enter Tryz.func17, Tryz.ntmps17
  (try dsimp only); (repeat (first | (first | (go_at_call 37; (with_reducible refine (HO.out _ _ hp hb M).mono ?_); rintro _ w1 ⟨r, hr, hx⟩; rcases r with ⟨n, q⟩ | ⟨a⟩; rotate_left; (focus (obtain ⟨rfl, cs, M1⟩ := hx; exact ⟨rfl, _, Reads.anyFail hr, rfl, cs, M1⟩)); obtain ⟨rfl, hq, hbq, M1⟩ := hx; replace M := M1; clear M1; dsimp only) | ((with_reducible refine on_load ?_); (first | refine xl1 M ?_ | refine xlN M ?_); go_big_move) | ((with_reducible refine on_store ?_); (first | refine xs1 M ?_ | refine xsN M ?_); clear M; intro w' M; (try simp only [List.set_cons_zero, List.set_cons_succ] at M)) | ((with_reducible refine on_box ?_); refine xb M ?_; clear M; intro g w' M; go_big_move) | ((with_reducible refine on_alloc ?_); refine xa M ?_; clear M; intro g w' M; go_big_move)) | go_values | go_skip | go_guarded | go_step | go_upon))
  have HP := Lib.hid (show ∀ r, Reads (lang s) true (.anyMore n) d q r → Reads (lang s) true .any d p r from fun r h => Reads.anyOk hr h)
  clear hr
  go_loopw [3] (fun x wr => ∃ (acc : Nd) (q : Nat), x = ndV acc ∧ q ≤ s.length ∧ (lex s q).kind ≠ .bad ∧ Hid (∀ r, Reads (lang s) true (.anyMore acc) d q r → Reads (lang s) true .any d p r) ∧ Mem S w0 [rp g s q (d : Int)] wr) (fun _ wr => s.length - (intOf ((wr.cell? ⟨g, 1, none⟩).getD undef)).toNat)
  · exact ⟨n, q, rfl, hq, hbq, HP, M⟩
  · clear M HP hq hbq
    obtain ⟨acc, q, rfl, hq, hbq, HP, M⟩ := hrel
    by_cases hw : isWord s q wOr
    · have HW := Lib.hid (decide_eq_true hw)
      obtain ⟨t1, v1, e1⟩ := ndV_iface acc
      rw [e1]
      have E1 := Lib.hid e1
      clear e1
      have hc1 : wr.cell? ⟨g, 1, none⟩ = some (fi ((lex s q).next : Nat)) := M.at_ (by (repeat (first | exact Pick.head | apply Pick.tail)); done) 1 _ rfl
      (try dsimp only); (repeat (first | (first | (go_at_call 38; (with_reducible refine (HI.out _ _ _ M HW.out).mono ?_); rintro _ w1 ⟨rfl, rfl⟩; dsimp only) | (go_at_call 16; (with_reducible refine (HX.out _ _ hq hbq M).mono ?_); rintro _ w2 hx; rcases hx with ⟨ha, hq2, hbq2, rfl, M1⟩ | ⟨ha, rfl, cs, M1⟩; rotate_left; (focus (exact ⟨rfl, _, HP.out _ (Reads.anyBad hw ha), rfl, cs, M1⟩)); replace M := M1; clear M1; dsimp only) | (go_at_call 37; (with_reducible refine (HO.out _ _ hq2 hbq2 M).mono ?_); rintro _ w3 ⟨r, hr, hx⟩; rcases r with ⟨m, q3⟩ | ⟨a⟩; rotate_left; (focus (obtain ⟨rfl, cs, M1⟩ := hx; exact ⟨rfl, _, HP.out _ (Reads.anyNo hw ha hr), rfl, cs, M1⟩)); obtain ⟨rfl, hq3, hbq3, M1⟩ := hx; replace M := M1; clear M1; dsimp only; obtain ⟨t2, v2, e2⟩ := ndV_iface m; rw [e2]; have E2 := Lib.hid e2; clear e2) | ((with_reducible refine on_load ?_); (first | refine xl1 M ?_ | refine xlN M ?_); go_big_move) | ((with_reducible refine on_store ?_); (first | refine xs1 M ?_ | refine xsN M ?_); clear M; intro w' M; (try simp only [List.set_cons_zero, List.set_cons_succ] at M)) | ((with_reducible refine on_box ?_); refine xb M ?_; clear M; intro g w' M; go_big_move) | ((with_reducible refine on_alloc ?_); refine xa M ?_; clear M; intro g w' M; go_big_move)) | go_values | go_skip | go_guarded | go_step | go_upon))
      refine ⟨⟨.any acc m, q3, by rw [← E1.out, ← E2.out]; rfl, hq3, hbq3, Lib.hid (fun r h => HP.out _ (Reads.anyMore hw ha hr h)), M⟩, ?_⟩
      have hc3 : w3.cell? ⟨g, 1, none⟩ = some (fi ((lex s q3).next : Nat)) := M.at_ (by (repeat (first | exact Pick.head | apply Pick.tail)); done) 1 _ rfl
      rw [hc1, hc3]
      have h1 := reads_gt hr rfl
      have h2 := next_ge (s := s) q3
      have h3 := next_bound hq3 hbq3
      simp only [NT.step, Option.getD_some, intOf, Int.toNat_natCast] at *
      omega
    · have HW := Lib.hid (decide_eq_false hw)
      (try dsimp only); (repeat (first | (first | (go_at_call 38; (with_reducible refine (HI.out _ _ _ M HW.out).mono ?_); rintro _ w1 ⟨rfl, rfl⟩; dsimp only) | ((with_reducible refine on_load ?_); (first | refine xl1 M ?_ | refine xlN M ?_); go_big_move) | ((with_reducible refine on_store ?_); (first | refine xs1 M ?_ | refine xsN M ?_); clear M; intro w' M; (try simp only [List.set_cons_zero, List.set_cons_succ] at M)) | ((with_reducible refine on_box ?_); refine xb M ?_; clear M; intro g w' M; go_big_move) | ((with_reducible refine on_alloc ?_); refine xa M ?_; clear M; intro g w' M; go_big_move)) | go_values | go_skip | go_guarded | go_step | go_upon))
      exact ret_m1 rfl (Out.tmp rfl) rfl ⟨_, HP.out _ (Reads.anyEnd hw), rfl, hq, hbq, M⟩
end Go.Proofs.YtkblkdnihppmnaaGreatDoor
/- Filters (layer 21): the document's small functions (walk): letters, digits, words and their places. -/
namespace Go.Proofs.YtkblkdnihppmnaaGreatDoor
set_option linter.unusedSimpArgs false
set_option linter.unusedVariables false
open Go.RowKit Res Filt

theorem ref_letter (c : UInt8) (w : World) : Calls Tryz.prog 39 #[.int .u8 (c.toNat : Int)] w fun e w' => e = .returned (.bool (isSmall c)) ∧ w = w' := by
  by_cases h1 : 97 ≤ c.toNat
  · have q1 : decide (97 ≤ (c.toNat : Int)) = true := by simp; omega
    have e : isSmall c = decide ((c.toNat : Int) ≤ 122) := by unfold isSmall; rw [decide_eq_decide]; omega
    rw [e]
    clear e
    go_enter Tryz.func39, Tryz.ntmps39
    go_wp2
    go_ret
    exact ⟨rfl, rfl⟩
  · have q1 : decide (97 ≤ (c.toNat : Int)) = false := by simp; omega
    have e : isSmall c = false := by unfold isSmall; rw [decide_eq_false_iff_not]; omega
    rw [e]
    clear e
    go_enter Tryz.func39, Tryz.ntmps39
    go_wp2
    go_ret
    exact ⟨rfl, rfl⟩
theorem ref_digit (c : UInt8) (w : World) : Calls Tryz.prog 40 #[.int .u8 (c.toNat : Int)] w fun e w' => e = .returned (.bool (isDigit c)) ∧ w = w' := by
  by_cases h1 : 48 ≤ c.toNat
  · have q1 : decide (48 ≤ (c.toNat : Int)) = true := by simp; omega
    have e : isDigit c = decide ((c.toNat : Int) ≤ 57) := by unfold isDigit; rw [decide_eq_decide]; omega
    rw [e]
    clear e
    go_enter Tryz.func40, Tryz.ntmps40
    go_wp2
    go_ret
    exact ⟨rfl, rfl⟩
  · have q1 : decide (48 ≤ (c.toNat : Int)) = false := by simp; omega
    have e : isDigit c = false := by unfold isDigit; rw [decide_eq_false_iff_not]; omega
    rw [e]
    clear e
    go_enter Tryz.func40, Tryz.ntmps40
    go_wp2
    go_ret
    exact ⟨rfl, rfl⟩
theorem strElem : ElemOf Tryz.prog 35 9 1 16 := elemOf_mk Tryz.underlying35 (z := .string ⟨#[]⟩) (by kernel_rfl) rfl (by decide)
/-- words in memory -/
def Words (w : World) (g : Nat) (fs : List (List UInt8)) : Prop := g < w.heap.size ∧ ∀ (j : Nat) t, fs[j]? = some t → w.cell? ⟨g, j, none⟩ = some (str t)
theorem Words.of_box {w : World} {g : Nat} {t : TypeId} {fs : List (List UInt8)} (h : Box w g t (fs.map str).toArray) : Words w g fs := ⟨h.lt, fun j t hj => by rw [h.cell]; simp [hj]⟩
theorem Words.ext {w w' : World} {g : Nat} {fs : List (List UInt8)} (h : Words w g fs) (hX : Ext w w') : Words w' g fs := ⟨Nat.lt_of_lt_of_le h.1 hX.size, fun j t hj => (hX.cell (p := ⟨g, j, none⟩) h.1).trans (h.2 j t hj)⟩
set_option maxRecDepth 100000 in
set_option maxHeartbeats 800000 in
theorem ref_fields (w : World) : Calls Tryz.prog 25 #[] w fun e w' => ∃ g, e = .returned (.slice (some ⟨g, 0, none⟩) 14 14) ∧ Ext w w' ∧ w.heap.size ≤ g ∧ Box w' g 9 ((fieldNames).map str).toArray := by
  have M := Mem.start w
  go_enter Tryz.func25, Tryz.ntmps25
  (try dsimp only); (repeat (first | (first | ((with_reducible refine on_slice ?_); refine wp_slice M strElem _ rfl _ (by (repeat (first | exact Parts.nil | (apply Parts.cons; (first | exact CellsOf.agg _ | exact CellsOf.int _ _ | exact CellsOf.str _ | exact CellsOf.bool _ | exact CellsOf.slice _ _ _ | exact CellsOf.pointer _); rfl))); done) (by rfl) (by decide) (by decide) ?_; clear M; intro g w' M; (try simp only [List.cons_append, List.nil_append] at M); (first | ((with_reducible refine fastK Tryz.prog rfl ?_); go_big_move) | (with_reducible refine fastN rfl ?_) | skip)) | ((with_reducible refine wl_g ?_); first | go_big_want | go_skip | ((with_reducible refine wl_off (by kernel_rfl) ?_); (first | ((with_reducible refine fastK Tryz.prog rfl ?_); go_big_move) | (with_reducible refine fastN rfl ?_) | skip))) | ((with_reducible refine on_load ?_); (first | refine xl1 M ?_ | refine xlN M ?_); go_big_move) | ((with_reducible refine on_store ?_); (first | refine xs1 M ?_ | refine xsN M ?_); clear M; intro w' M; (try simp only [List.set_cons_zero, List.set_cons_succ] at M)) | ((with_reducible refine on_box ?_); refine xb M ?_; clear M; intro g w' M; go_big_move) | ((with_reducible refine on_alloc ?_); refine xa M ?_; clear M; intro g w' M; go_big_move)) | go_values | go_skip | go_guarded | go_step | go_upon))
  have hB := M.box (g := g) (by (repeat (first | exact Pick.head | apply Pick.tail)); done)
  exact ret_m1 rfl (Out.tmp rfl) rfl ⟨_, rfl, M.ext_of, Nat.le_of_not_lt (M.out _ (Pick.mem (c := bx g _ _) (by (repeat (first | exact Pick.head | apply Pick.tail)); done)) g rfl), hB⟩
set_option maxRecDepth 100000 in
set_option maxHeartbeats 800000 in
theorem ref_statuses (w : World) : Calls Tryz.prog 24 #[] w fun e w' => ∃ g, e = .returned (.slice (some ⟨g, 0, none⟩) 8 8) ∧ Ext w w' ∧ w.heap.size ≤ g ∧ Box w' g 9 ((([] : List UInt8) :: statusNames).map str).toArray := by
  have M := Mem.start w
  go_enter Tryz.func24, Tryz.ntmps24
  (try dsimp only); (repeat (first | (first | ((with_reducible refine on_slice ?_); refine wp_slice M strElem _ rfl _ (by (repeat (first | exact Parts.nil | (apply Parts.cons; (first | exact CellsOf.agg _ | exact CellsOf.int _ _ | exact CellsOf.str _ | exact CellsOf.bool _ | exact CellsOf.slice _ _ _ | exact CellsOf.pointer _); rfl))); done) (by rfl) (by decide) (by decide) ?_; clear M; intro g w' M; (try simp only [List.cons_append, List.nil_append] at M); (first | ((with_reducible refine fastK Tryz.prog rfl ?_); go_big_move) | (with_reducible refine fastN rfl ?_) | skip)) | ((with_reducible refine wl_g ?_); first | go_big_want | go_skip | ((with_reducible refine wl_off (by kernel_rfl) ?_); (first | ((with_reducible refine fastK Tryz.prog rfl ?_); go_big_move) | (with_reducible refine fastN rfl ?_) | skip))) | ((with_reducible refine on_load ?_); (first | refine xl1 M ?_ | refine xlN M ?_); go_big_move) | ((with_reducible refine on_store ?_); (first | refine xs1 M ?_ | refine xsN M ?_); clear M; intro w' M; (try simp only [List.set_cons_zero, List.set_cons_succ] at M)) | ((with_reducible refine on_box ?_); refine xb M ?_; clear M; intro g w' M; go_big_move) | ((with_reducible refine on_alloc ?_); refine xa M ?_; clear M; intro g w' M; go_big_move)) | go_values | go_skip | go_guarded | go_step | go_upon))
  have hB := M.box (g := g) (by (repeat (first | exact Pick.head | apply Pick.tail)); done)
  exact ret_m1 rfl (Out.tmp rfl) rfl ⟨_, rfl, M.ext_of, Nat.le_of_not_lt (M.out _ (Pick.mem (c := bx g _ _) (by (repeat (first | exact Pick.head | apply Pick.tail)); done)) g rfl), hB⟩
set_option maxRecDepth 100000 in
set_option maxHeartbeats 800000 in
theorem ref_asks (w : World) : Calls Tryz.prog 26 #[] w fun e w' => ∃ g, e = .returned (.slice (some ⟨g, 0, none⟩) 6 6) ∧ Ext w w' ∧ w.heap.size ≤ g ∧ Box w' g 9 ((askNames).map str).toArray := by
  have M := Mem.start w
  go_enter Tryz.func26, Tryz.ntmps26
  (try dsimp only); (repeat (first | (first | ((with_reducible refine on_slice ?_); refine wp_slice M strElem _ rfl _ (by (repeat (first | exact Parts.nil | (apply Parts.cons; (first | exact CellsOf.agg _ | exact CellsOf.int _ _ | exact CellsOf.str _ | exact CellsOf.bool _ | exact CellsOf.slice _ _ _ | exact CellsOf.pointer _); rfl))); done) (by rfl) (by decide) (by decide) ?_; clear M; intro g w' M; (try simp only [List.cons_append, List.nil_append] at M); (first | ((with_reducible refine fastK Tryz.prog rfl ?_); go_big_move) | (with_reducible refine fastN rfl ?_) | skip)) | ((with_reducible refine wl_g ?_); first | go_big_want | go_skip | ((with_reducible refine wl_off (by kernel_rfl) ?_); (first | ((with_reducible refine fastK Tryz.prog rfl ?_); go_big_move) | (with_reducible refine fastN rfl ?_) | skip))) | ((with_reducible refine on_load ?_); (first | refine xl1 M ?_ | refine xlN M ?_); go_big_move) | ((with_reducible refine on_store ?_); (first | refine xs1 M ?_ | refine xsN M ?_); clear M; intro w' M; (try simp only [List.set_cons_zero, List.set_cons_succ] at M)) | ((with_reducible refine on_box ?_); refine xb M ?_; clear M; intro g w' M; go_big_move) | ((with_reducible refine on_alloc ?_); refine xa M ?_; clear M; intro g w' M; go_big_move)) | go_values | go_skip | go_guarded | go_step | go_upon))
  have hB := M.box (g := g) (by (repeat (first | exact Pick.head | apply Pick.tail)); done)
  exact ret_m1 rfl (Out.tmp rfl) rfl ⟨_, rfl, M.ext_of, Nat.le_of_not_lt (M.out _ (Pick.mem (c := bx g _ _) (by (repeat (first | exact Pick.head | apply Pick.tail)); done)) g rfl), hB⟩
set_option maxRecDepth 100000 in
set_option maxHeartbeats 800000 in
theorem ref_find (g n : Nat) (fs : List (List UInt8)) (x : List UInt8) (hn : fs.length = n) (hn2 : n ≤ 1000) (w : World) (hB : Words w g fs) :
    Calls Tryz.prog 74 #[.slice (some ⟨g, 0, none⟩) n n, str x] w fun e w' => e = .returned (fi (refFind fs x)) ∧ w = w' := by
  have M := Mem.start w
  obtain ⟨res, hres⟩ : ∃ res, refFind fs x = res := ⟨_, rfl⟩
  rw [hres]
  have HR := Lib.hid hres
  have HL := Lib.hid hn
  have HB := Lib.hid hB
  clear hres hB hn
  go_enter Tryz.func74, Tryz.ntmps74
  (try dsimp only); (repeat (first | (first | ((with_reducible refine wl_g ?_); first | go_big_want | go_skip | ((with_reducible refine wl_off (by kernel_rfl) ?_); (first | ((with_reducible refine fastK Tryz.prog rfl ?_); go_big_move) | (with_reducible refine fastN rfl ?_) | skip))) | ((with_reducible refine on_load ?_); (first | refine xl1 M ?_ | refine xlN M ?_); go_big_move) | ((with_reducible refine on_store ?_); (first | refine xs1 M ?_ | refine xsN M ?_); clear M; intro w' M; (try simp only [List.set_cons_zero, List.set_cons_succ] at M)) | ((with_reducible refine on_box ?_); refine xb M ?_; clear M; intro g w' M; go_big_move) | ((with_reducible refine on_alloc ?_); refine xa M ?_; clear M; intro g w' M; go_big_move)) | go_values | go_skip | go_guarded | go_step | go_upon))
  go_loop [5] (fun i => ∃ k : Nat, k ≤ n ∧ i = fi (k : Int) ∧ Hid (x = [] ∨ x ∉ fs.take k)) (fun i => n - (intOf i).toNat)
  case atStart => exact ⟨0, by omega, rfl, Lib.hid (.inr (by simp))⟩
  case round =>
    obtain ⟨k, hk, rfl, hh⟩ := hrel
    by_cases hlt : k < n
    · have q1 : decide ((k : Int) < (n : Int)) = true := by simp; omega
      obtain ⟨y, hy⟩ : ∃ y, fs[k]? = some y := ⟨_, List.getElem?_eq_getElem (by rw [HL.out]; exact hlt)⟩
      have HC := Lib.hid (HB.out.2 k y hy)
      have hwk : IntKind.i64.wrap ((k : Int) + 1) = (k : Int) + 1 := IntWalk.i64_in _ (by omega)
      by_cases hxy : y = x
      · have q2 : (y == x) = true := by simpa using hxy
        by_cases hx0 : x = []
        · have q3 : (!x.isEmpty) = false := by simpa using hx0
          have HN : Hid (x = [] ∨ x ∉ fs.take (k + 1)) := Lib.hid (.inl hx0)
          clear hxy hy hh hx0
          (try dsimp only); (repeat (first | (first | ((with_reducible refine on_load ?_); refine xlC HC.out ?_; go_big_move) | ((with_reducible refine wl_g ?_); first | go_big_want | go_skip | ((with_reducible refine wl_off (by kernel_rfl) ?_); (first | ((with_reducible refine fastK Tryz.prog rfl ?_); go_big_move) | (with_reducible refine fastN rfl ?_) | skip))) | ((with_reducible refine on_load ?_); (first | refine xl1 M ?_ | refine xlN M ?_); go_big_move) | ((with_reducible refine on_store ?_); (first | refine xs1 M ?_ | refine xsN M ?_); clear M; intro w' M; (try simp only [List.set_cons_zero, List.set_cons_succ] at M)) | ((with_reducible refine on_box ?_); refine xb M ?_; clear M; intro g w' M; go_big_move) | ((with_reducible refine on_alloc ?_); refine xa M ?_; clear M; intro g w' M; go_big_move)) | go_values | go_skip | go_guarded | go_step | go_upon))
          exact ⟨⟨k + 1, by omega, by go_num, HN⟩, by simp [intOf]; omega⟩
        · have q3 : (!x.isEmpty) = true := by simpa using hx0
          have HN : Hid (res = (k : Int)) := Lib.hid (by
            rw [← HR.out]
            unfold refFind
            rcases hh.out with h | h
            · exact absurd h hx0
            rw [idx_at fs k (by rw [hy, hxy]) h, if_pos ⟨hx0, by rw [HL.out]; exact hlt⟩])
          clear hxy hy hh hx0
          (try dsimp only); (repeat (first | (first | ((with_reducible refine on_load ?_); refine xlC HC.out ?_; go_big_move) | ((with_reducible refine wl_g ?_); first | go_big_want | go_skip | ((with_reducible refine wl_off (by kernel_rfl) ?_); (first | ((with_reducible refine fastK Tryz.prog rfl ?_); go_big_move) | (with_reducible refine fastN rfl ?_) | skip))) | ((with_reducible refine on_load ?_); (first | refine xl1 M ?_ | refine xlN M ?_); go_big_move) | ((with_reducible refine on_store ?_); (first | refine xs1 M ?_ | refine xsN M ?_); clear M; intro w' M; (try simp only [List.set_cons_zero, List.set_cons_succ] at M)) | ((with_reducible refine on_box ?_); refine xb M ?_; clear M; intro g w' M; go_big_move) | ((with_reducible refine on_alloc ?_); refine xa M ?_; clear M; intro g w' M; go_big_move)) | go_values | go_skip | go_guarded | go_step | go_upon))
          rw [HN.out]
          exact ret_m1 rfl (Out.tmp rfl) rfl ⟨rfl, rfl⟩
      · have q2 : (y == x) = false := by simpa using hxy
        have HN : Hid (x = [] ∨ x ∉ fs.take (k + 1)) := Lib.hid (by
          rcases hh.out with h | h
          · exact .inl h
          rw [List.take_add_one, hy]
          simp only [Option.toList_some, List.mem_append, List.mem_singleton, not_or]
          exact .inr ⟨h, fun e => hxy e.symm⟩)
        clear hxy hy hh
        (try dsimp only); (repeat (first | (first | ((with_reducible refine on_load ?_); refine xlC HC.out ?_; go_big_move) | ((with_reducible refine wl_g ?_); first | go_big_want | go_skip | ((with_reducible refine wl_off (by kernel_rfl) ?_); (first | ((with_reducible refine fastK Tryz.prog rfl ?_); go_big_move) | (with_reducible refine fastN rfl ?_) | skip))) | ((with_reducible refine on_load ?_); (first | refine xl1 M ?_ | refine xlN M ?_); go_big_move) | ((with_reducible refine on_store ?_); (first | refine xs1 M ?_ | refine xsN M ?_); clear M; intro w' M; (try simp only [List.set_cons_zero, List.set_cons_succ] at M)) | ((with_reducible refine on_box ?_); refine xb M ?_; clear M; intro g w' M; go_big_move) | ((with_reducible refine on_alloc ?_); refine xa M ?_; clear M; intro g w' M; go_big_move)) | go_values | go_skip | go_guarded | go_step | go_upon))
        exact ⟨⟨k + 1, by omega, by go_num, HN⟩, by simp [intOf]; omega⟩
    · have q1 : decide ((k : Int) < (n : Int)) = false := by simp; omega
      have HN : Hid (res = -1) := Lib.hid (by
        have e : fs.take k = fs := List.take_of_length_le (by rw [HL.out]; omega)
        have h := hh.out
        rw [e] at h
        rw [← HR.out]
        unfold refFind
        rcases h with h | h
        · exact if_neg fun k => k.1 h
        · exact if_neg fun k => by rw [List.idxOf_eq_length h] at k; omega)
      clear hh
      (try dsimp only); (repeat (first | (first | ((with_reducible refine wl_g ?_); first | go_big_want | go_skip | ((with_reducible refine wl_off (by kernel_rfl) ?_); (first | ((with_reducible refine fastK Tryz.prog rfl ?_); go_big_move) | (with_reducible refine fastN rfl ?_) | skip))) | ((with_reducible refine on_load ?_); (first | refine xl1 M ?_ | refine xlN M ?_); go_big_move) | ((with_reducible refine on_store ?_); (first | refine xs1 M ?_ | refine xsN M ?_); clear M; intro w' M; (try simp only [List.set_cons_zero, List.set_cons_succ] at M)) | ((with_reducible refine on_box ?_); refine xb M ?_; clear M; intro g w' M; go_big_move) | ((with_reducible refine on_alloc ?_); refine xa M ?_; clear M; intro g w' M; go_big_move)) | go_values | go_skip | go_guarded | go_step | go_upon))
      rw [HN.out]
      exact ret_m1 rfl (Out.tmp rfl) rfl ⟨rfl, rfl⟩
end Go.Proofs.YtkblkdnihppmnaaGreatDoor
