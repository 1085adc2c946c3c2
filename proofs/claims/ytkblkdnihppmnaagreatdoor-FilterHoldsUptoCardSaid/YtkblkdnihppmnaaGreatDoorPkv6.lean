/- Parts of this work, one behind the other: FiltW3. -/
import Derived.Test.YtkblkdnihppmnaaGreatDoorPkv4
/- Filters (layer 21): the program's tokens (walk, third part: next; printed by gen_w3.py). -/
namespace Go.Proofs.YtkblkdnihppmnaaGreatDoor
set_option linter.unusedSimpArgs false
set_option linter.unusedVariables false
open Go.RowKit Res Filt

theorem Mem.at_ {S : Nat → Prop} {w0 w : World} {l : List Res} (M : Mem S w0 l w) {g : Nat} {t : TypeId} {cs : List Value} {f : Res → List Res} (p : Pick l (bx g t cs) f) (k : Nat) (v : Value) (h : cs[k]? = some v) : w.cell? ⟨g, k, none⟩ = some v := by
  rw [(M.box p).cell]
  simpa using h
abbrev fi (n : Int) : Value := .int .i64 n
/-- the reader: its text, where it is, the token at hand, how deep it is -/
abbrev rd (g : Nat) (s : List UInt8) (at_ k ta : Int) (ts : List UInt8) (d : Int) : Res := bx g 49 [str s, fi at_, fi k, fi ta, str ts, fi d]
abbrev faultAt (i : Int) : List PanicEntry := [{ v := .iface 42 (fi i), recovered := false }]
theorem Nv.mem {S : Nat → Prop} {w w' : World} {l : List Res} (h : Nv w) (hS : ∀ b, b < Tryz.prog.globals.size → S b) (M : Mem S w l w') : Nv w' :=
  h.keep M.fr.size fun b hb => M.fr.block b (M.lo b (hS b hb)) (hS b hb)
theorem run_le {q : UInt8 → Bool} {s : List UInt8} {i : Nat} (h : i ≤ s.length) : i + runLen q (s.drop i) ≤ s.length := by
  have := runLen_le q (s.drop i)
  rw [List.length_drop] at this
  omega
set_option maxRecDepth 100000 in
set_option maxHeartbeats 800000 in
theorem next_ended (s : List UInt8) (hs : s.length ≤ 1048576) (p : Nat) (hp : p ≤ s.length) (i : Nat) (hi : startOf s p = i) (hl : i = s.length) {S : Nat → Prop} {g : Nat} {k0 t0 d : Int} {ts : List UInt8} {w : World} (M : Mem S w [rd g s p k0 t0 ts d] w) :
    Calls Tryz.prog 16 #[.pointer (some ⟨g, 0, none⟩)] w fun e w' => e = .returned (.tuple #[]) ∧ Mem S w [rd g s i 0 i [] d] w' := by
  have HB : Hid (∀ w', w'.cell? ⟨g, 0, none⟩ = some (str s) → Calls Tryz.prog 29 #[.pointer (some ⟨g, 0, none⟩), fi p, .func (.func 30) #[] #[]] w' fun e w'' => e = .returned (fi i) ∧ w' = w'') := Lib.hid (fun w' hc => by rw [← hi]; exact row_blank s hs g p hp w' hc)
  clear hi
  have he2 : ((i : Int) == (s.length : Int)) = true := by rw [beq_iff_eq]; omega
  clear hl
  go_enter Tryz.func16, Tryz.ntmps16
  (try dsimp only); (repeat (first | (first | (go_at_call 29; (first | (with_reducible refine (HB.out _ (M.at_ pk 0 _ rfl)).mono ?_) | (with_reducible refine (HR.out _ (M.at_ pk 0 _ rfl)).mono ?_)); rintro _ w1 ⟨rfl, rfl⟩; dsimp only) | ((with_reducible refine on_store ?_); refine xsA M ?_; clear M; intro w' M; (try simp only [List.take_succ_cons, List.take_zero, List.length_cons, List.length_nil, Nat.reduceAdd, List.drop_succ_cons, List.drop_zero, List.drop_nil, List.cons_append, List.nil_append] at M)) | ((with_reducible refine wl_g ?_); first | go_big_want | go_skip | ((with_reducible refine wl_off (by kernel_rfl) ?_); (first | ((with_reducible refine fastK Tryz.prog rfl ?_); go_big_move) | (with_reducible refine fastN rfl ?_) | skip))) | ((with_reducible refine on_load ?_); (first | refine xl1 M ?_ | refine xlN M ?_); go_big_move) | ((with_reducible refine on_store ?_); (first | refine xs1 M ?_ | refine xsN M ?_); clear M; intro w' M; (try simp only [List.set_cons_zero, List.set_cons_succ] at M))) | go_values | go_skip | go_guarded | go_step | go_upon))
  (try rw [Exit.noGoto_ret])
  exact ret_m0 rfl rfl ⟨rfl, M⟩
set_option maxRecDepth 100000 in
set_option maxHeartbeats 800000 in
theorem next_word (s : List UInt8) (hs : s.length ≤ 1048576) (p : Nat) (hp : p ≤ s.length) (i : Nat) (hi : startOf s p = i) (c : UInt8) (hc : s[i]? = some c) (h1 : isSmall c = true) (j : Nat) (hj : i + 1 + runLen isAln (s.drop (i + 1)) = j) {S : Nat → Prop} {g : Nat} {k0 t0 d : Int} {ts : List UInt8} {w : World} (M : Mem S w [rd g s p k0 t0 ts d] w) :
    Calls Tryz.prog 16 #[.pointer (some ⟨g, 0, none⟩)] w fun e w' => e = .returned (.tuple #[]) ∧ Mem S w [rd g s j 1 i ((s.drop i).take (j - i)) d] w' := by
  have HB : Hid (∀ w', w'.cell? ⟨g, 0, none⟩ = some (str s) → Calls Tryz.prog 29 #[.pointer (some ⟨g, 0, none⟩), fi p, .func (.func 30) #[] #[]] w' fun e w'' => e = .returned (fi i) ∧ w' = w'') := Lib.hid (fun w' hc => by rw [← hi]; exact row_blank s hs g p hp w' hc)
  clear hi
  have hlt : i < s.length := (List.getElem?_eq_some_iff.1 hc).1
  have he2 : ((i : Int) == (s.length : Int)) = false := by rw [beq_eq_false_iff_ne]; omega
  have hw1 : IntKind.i64.wrap ((i : Int) + 1) = (i : Int) + 1 := IntWalk.i64_in _ (by omega)
  have hc256 : c.toNat < 256 := c.toNat_lt
  have HC := Lib.hid hc
  clear hc
  have HS : Hid (∀ w', Calls Tryz.prog 31 #[.int .u8 (c.toNat : Int)] w' fun e w'' => e = .returned (.bool true) ∧ w' = w'') := Lib.hid (fun w' => by rw [← h1]; exact small_any c w')
  have HR : Hid (∀ w', w'.cell? ⟨g, 0, none⟩ = some (str s) → Calls Tryz.prog 29 #[.pointer (some ⟨g, 0, none⟩), fi ((i : Int) + 1), .func (.func 32) #[] #[]] w' fun e w'' => e = .returned (fi j) ∧ w' = w'') := Lib.hid (fun w' hx => by rw [← hj]; exact row_aln s hs g (i + 1) (by omega) w' hx)
  have hjl : j ≤ s.length := by rw [← hj]; exact run_le (by omega)
  have hij : i < j := by omega
  clear hj
  clear h1
  go_enter Tryz.func16, Tryz.ntmps16
  (try dsimp only); (repeat (first | (first | (go_at_call 29; (first | (with_reducible refine (HB.out _ (M.at_ pk 0 _ rfl)).mono ?_) | (with_reducible refine (HR.out _ (M.at_ pk 0 _ rfl)).mono ?_)); rintro _ w1 ⟨rfl, rfl⟩; dsimp only) | ((with_reducible refine on_store ?_); refine xsA M ?_; clear M; intro w' M; (try simp only [List.take_succ_cons, List.take_zero, List.length_cons, List.length_nil, Nat.reduceAdd, List.drop_succ_cons, List.drop_zero, List.drop_nil, List.cons_append, List.nil_append] at M)) | ((with_reducible refine on_indexT ?_); refine wp_indexT _ _ _ rfl Tryz.underlying9 s rfl _ i rfl c HC.out ?_; (first | ((with_reducible refine fastK Tryz.prog rfl ?_); go_big_move) | (with_reducible refine fastN rfl ?_) | skip)) | (go_at_call 31; (with_reducible refine (HS.out _).mono ?_); rintro _ w1 ⟨rfl, rfl⟩; dsimp only) | ((with_reducible refine on_cutT ?_); refine wp_cutT _ _ _ _ rfl Tryz.underlying9 s rfl _ _ i (j) rfl (by first | rfl | (simp; done) | (simp; omega)) (by omega) (by omega) _ rfl ?_; (first | ((with_reducible refine fastK Tryz.prog rfl ?_); go_big_move) | (with_reducible refine fastN rfl ?_) | skip)) | ((with_reducible refine wl_g ?_); first | go_big_want | go_skip | ((with_reducible refine wl_off (by kernel_rfl) ?_); (first | ((with_reducible refine fastK Tryz.prog rfl ?_); go_big_move) | (with_reducible refine fastN rfl ?_) | skip))) | ((with_reducible refine on_load ?_); (first | refine xl1 M ?_ | refine xlN M ?_); go_big_move) | ((with_reducible refine on_store ?_); (first | refine xs1 M ?_ | refine xsN M ?_); clear M; intro w' M; (try simp only [List.set_cons_zero, List.set_cons_succ] at M))) | go_values | go_skip | go_guarded | go_step | go_upon))
  exact ret_n0 rfl rfl ⟨rfl, M⟩
end Go.Proofs.YtkblkdnihppmnaaGreatDoor
