/- Parts of this work, one behind the other: Rfl. -/
import Derived.Test.YtkblkdnihppmnaaGreatDoorPkv38
/- Filters (layer 21): the document's Parse (walk; printed by gen_rl.py). -/
namespace Go.Proofs.YtkblkdnihppmnaaGreatDoor
set_option linter.unusedSimpArgs false
set_option linter.unusedVariables false
open Go.RowKit Res Filt

/-- what the document's Parse hands back -/
def PrPost (w : World) : Filt.Out → Ending → World → Prop
  | .no a, e, w' => e = .returned (.tuple #[.slice none 0 0, fi 51, fi (a : Nat)]) ∧ Ext w w'
  | .ok none, e, w' => e = .returned (.tuple #[.slice none 0 0, fi 0, fi 0]) ∧ Ext w w'
  | .ok (some n), e, w' => ∃ A c, e = .returned (.tuple #[.slice A (flat n).length c, fi 0, fi 0]) ∧ Ext w w' ∧ Own w' w.heap.size 63 fnV 5 A c (flat n)
abbrev RParseIs (s : List UInt8) (w : World) : Prop := Calls Tryz.prog 8 #[str s] w fun e w' => ∃ o, ParseR s o ∧ PrPost w o e w'
set_option maxRecDepth 100000 in
set_option maxHeartbeats 800000 in
theorem rparse_long (s : List UInt8) (h : 512 < s.length) (w : World) : RParseIs s w := by
  have M := Mem.start w
  have q1 : decide (512 < (s.length : Int)) = true := by simp; omega
  go_enter Tryz.func8, Tryz.ntmps8
  (try dsimp only); (repeat (first | (first | ((with_reducible refine on_load ?_); (first | refine xl1 M ?_ | refine xlN M ?_); go_big_move) | ((with_reducible refine on_store ?_); (first | refine xs1 M ?_ | refine xsN M ?_); clear M; intro w' M; (try simp only [List.set_cons_zero, List.set_cons_succ] at M)) | ((with_reducible refine on_box ?_); refine xb M ?_; clear M; intro g w' M; go_big_move) | ((with_reducible refine on_alloc ?_); refine xa M ?_; clear M; intro g w' M; go_big_move)) | go_values | go_skip | go_guarded | go_step | go_upon))
  exact ret_m3 rfl (Out.tmp rfl) (Out.tmp rfl) (Out.tmp rfl) rfl ⟨_, ParseR.long h, rfl, M.ext_of⟩
set_option maxRecDepth 100000 in
set_option maxHeartbeats 800000 in
theorem rparse_none (s : List UInt8) (h : s.length ≤ 512) (he : (lex s 0).kind = .ended) (w : World) : RParseIs s w := by
  have M := Mem.start w
  have q1 : decide (512 < (s.length : Int)) = false := by simp; omega
  have k0 : (kindN (lex s 0).kind == 0) = true := by rw [he]; rfl
  have HE := Lib.hid he
  have HN : Hid (∀ gr w', w'.cell? ⟨gr, 0, none⟩ = some (str s) → w'.cell? ⟨gr, 1, none⟩ = some (fi 0) → Calls Tryz.prog 19 #[.pointer (some ⟨gr, 0, none⟩)] w' fun e w'' => e = .returned (.agg #[fi (kindN (lex s 0).kind), fi ((lex s 0).at_ : Nat), fi ((lex s 0).next : Nat), str (textOf s (lex s 0))]) ∧ Ext w' w'') := Lib.hid (fun gr w' h0 h1 => ref_next s (by omega) gr 0 (Nat.zero_le _) w' h0 h1)
  clear he
  generalize textOf s (lex s 0) = tx at *
  generalize kindN (lex s 0).kind = k at *
  go_enter Tryz.func8, Tryz.ntmps8
  (try dsimp only); (repeat (first | (first | (go_at_call 19; (first | (with_reducible refine (HN.out _ _ (M.at_ pk 0 _ rfl) (M.at_ pk 1 _ rfl)).mono ?_)); rintro _ w1 ⟨rfl, hX⟩; replace M := M.ext hX; clear hX; dsimp only) | ((with_reducible refine on_load ?_); (first | refine xl1 M ?_ | refine xlN M ?_); go_big_move) | ((with_reducible refine on_store ?_); (first | refine xs1 M ?_ | refine xsN M ?_); clear M; intro w' M; (try simp only [List.set_cons_zero, List.set_cons_succ] at M)) | ((with_reducible refine on_box ?_); refine xb M ?_; clear M; intro g w' M; go_big_move) | ((with_reducible refine on_alloc ?_); refine xa M ?_; clear M; intro g w' M; go_big_move)) | go_values | go_skip | go_guarded | go_step | go_upon))
  exact ret_m3 rfl (Out.tmp rfl) (Out.tmp rfl) (Out.tmp rfl) rfl ⟨_, ParseR.none h HE.out, rfl, M.ext_of⟩
set_option maxRecDepth 100000 in
set_option maxHeartbeats 800000 in
theorem rparse_some (s : List UInt8) (h : s.length ≤ 512) (he : (lex s 0).kind ≠ .ended) (w : World) : RParseIs s w := by
  have M := (Mem.start w).nil_ 63 fnV 5
  have q1 : decide (512 < (s.length : Int)) = false := by simp; omega
  have k0 : (kindN (lex s 0).kind == 0) = false := by cases hk : (lex s 0).kind <;> first | exact absurd hk he | rfl
  have HE := Lib.hid he
  have HA : Hid (∀ (S : Nat → Prop) (gr : Nat) (w0 w : World), Mem S w0 [rx gr s 0 false 0 none 0 0 0, ro none 0 []] w → Calls Tryz.prog 20 #[.pointer (some ⟨gr, 0, none⟩)] w fun e w' => e = .returned (.tuple #[]) ∧ ∃ r, Reads (lang s) false .any 0 0 r ∧ RxPost S s gr 0 0 w0 [] 66 r w') := Lib.hid (fun S gr w0 w M => rparser_any s (by omega) S gr 0 none 0 [] w0 w (Nat.zero_le _) (Nat.zero_le _) M)
  have HN : Hid (∀ gr w', w'.cell? ⟨gr, 0, none⟩ = some (str s) → w'.cell? ⟨gr, 1, none⟩ = some (fi 0) → Calls Tryz.prog 19 #[.pointer (some ⟨gr, 0, none⟩)] w' fun e w'' => e = .returned (.agg #[fi (kindN (lex s 0).kind), fi ((lex s 0).at_ : Nat), fi ((lex s 0).next : Nat), str (textOf s (lex s 0))]) ∧ Ext w' w'') := Lib.hid (fun gr w' h0 h1 => ref_next s (by omega) gr 0 (Nat.zero_le _) w' h0 h1)
  clear he
  have HN2 : Hid (∀ (q : Nat) gr w', q ≤ s.length → w'.cell? ⟨gr, 0, none⟩ = some (str s) → w'.cell? ⟨gr, 1, none⟩ = some (fi (q : Int)) → Calls Tryz.prog 19 #[.pointer (some ⟨gr, 0, none⟩)] w' fun e w'' => e = .returned (.agg #[fi (kindN (lex s q).kind), fi ((lex s q).at_ : Nat), fi ((lex s q).next : Nat), str (textOf s (lex s q))]) ∧ Ext w' w'') := Lib.hid (fun q gr w' hq h0 h1 => ref_next s (by omega) gr q hq w' h0 h1)
  have HFG := Lib.hid (fun (gr : Nat) (a q : Int) (A : Option Addr) (n c : Nat) (S : Nat → Prop) (w0 w : World) (M : Mem S w0 [rx gr s q false 0 A n c 0] w) => fails_good a M)
  have HFB := Lib.hid (fun (gr : Nat) (a b q : Int) (A : Option Addr) (n c : Nat) (S : Nat → Prop) (w0 w : World) (M : Mem S w0 [rx gr s q true b A n c 0] w) => fails_bad a M)
  generalize textOf s (lex s 0) = tx at *
  generalize kindN (lex s 0).kind = k at *
  go_enter Tryz.func8, Tryz.ntmps8
  (try dsimp only); (repeat (first | (first | (go_at_call 19; (first | (with_reducible refine (HN.out _ _ (M.at_ pk 0 _ rfl) (M.at_ pk 1 _ rfl)).mono ?_)); rintro _ w1 ⟨rfl, hX⟩; replace M := M.ext hX; clear hX; dsimp only) | (go_at_call 20; (with_reducible refine (HA.out _ _ _ _ (M.only tk)).mono ?_); rintro _ w2 ⟨rfl, r, hr, hx⟩; dsimp only; refine Hid.out ?_) | ((with_reducible refine on_load ?_); (first | refine xl1 M ?_ | refine xlN M ?_); go_big_move) | ((with_reducible refine on_store ?_); (first | refine xs1 M ?_ | refine xsN M ?_); clear M; intro w' M; (try simp only [List.set_cons_zero, List.set_cons_succ] at M)) | ((with_reducible refine on_box ?_); refine xb M ?_; clear M; intro g w' M; go_big_move) | ((with_reducible refine on_alloc ?_); refine xa M ?_; clear M; intro g w' M; go_big_move)) | go_values | go_skip | go_guarded | go_step | go_upon))
  cases r with
  | ok n q =>
    obtain ⟨hq, hl, A', c', M1⟩ := hx
    replace M := M.into tk M1
    clear M1
    dsimp only [List.cons_append, List.nil_append] at M
    refine Lib.hid ?_
    by_cases hqe : (lex s q).kind = .ended
    · have k1 : (kindN (lex s q).kind != 0) = false := by rw [hqe]; rfl
      have HR : Hid (ParseR s (.ok (some n))) := Lib.hid (ParseR.ok h HE.out hr hqe)
      have HNQ := Lib.hid (fun gr w' => HN2.out q gr w' hq)
      clear hr hqe HN HN2
      generalize textOf s (lex s q) = tx2 at *
      generalize kindN (lex s q).kind = k2 at *
      (try dsimp only); (repeat (first | (first | (go_at_call 19; (first | (with_reducible refine (HNQ.out _ _ (M.at_ pk 0 _ rfl) (M.at_ pk 1 _ rfl)).mono ?_)); rintro _ w1 ⟨rfl, hX⟩; replace M := M.ext hX; clear hX; dsimp only) | ((with_reducible refine on_region 12 ?_); refine wp_region_mem0 M (by kernel_rfl) (by kernel_rfl) ?_; clear M; intro w' M; (repeat (first | ((with_reducible refine st_load ?_); first | fail | (refine st_load1 M _ _ rfl pk (fun w => ⟨by first | (simp [go_sem]; done) | (simp [go_sem]; rfl), by first | (simp [go_sem]; done) | (simp [go_sem]; rfl)⟩) _ (by rfl) ?_; (first | ((with_reducible refine fastS Tryz.prog rfl ?_); go_big_move; (with_reducible show wpStill _ _ _ _ _ _)) | (with_reducible refine fastSN rfl ?_) | skip)) | (refine st_loadN M _ rfl pk (fun w => ⟨by first | (simp [go_sem]; done) | (simp [go_sem]; rfl), by first | (simp [go_sem]; done) | (simp [go_sem]; rfl)⟩) ?_; (first | ((with_reducible refine fastS Tryz.prog rfl ?_); go_big_move; (with_reducible show wpStill _ _ _ _ _ _)) | (with_reducible refine fastSN rfl ?_) | skip))) | ((with_reducible refine st_quiet rfl rfl (fun K hK => ?_)); (first | go_big_move | go_big_op); refine hK _ ?_; clear hK K) | still_step)); refine wpStill_nil ?_) | ((with_reducible refine on_load ?_); (first | refine xl1 M ?_ | refine xlN M ?_); go_big_move) | ((with_reducible refine on_store ?_); (first | refine xs1 M ?_ | refine xsN M ?_); clear M; intro w' M; (try simp only [List.set_cons_zero, List.set_cons_succ] at M)) | ((with_reducible refine on_box ?_); refine xb M ?_; clear M; intro g w' M; go_big_move) | ((with_reducible refine on_alloc ?_); refine xa M ?_; clear M; intro g w' M; go_big_move)) | go_values | go_skip | go_guarded | go_step | go_upon))
      exact ret_m3 rfl (Out.tmp rfl) (Out.tmp rfl) (Out.tmp rfl) rfl ⟨_, HR.out, A', c', rfl, M.ext_of, M.own_new pk⟩
    · have k1 : (kindN (lex s q).kind != 0) = true := by cases hk : (lex s q).kind <;> first | exact absurd hk hqe | rfl
      have HR : Hid (ParseR s (.no (lex s q).at_)) := Lib.hid (ParseR.more h HE.out hr hqe)
      have HNQ := Lib.hid (fun gr w' => HN2.out q gr w' hq)
      clear hr hqe HN HN2
      generalize textOf s (lex s q) = tx2 at *
      generalize kindN (lex s q).kind = k2 at *
      (try dsimp only); (repeat (first | (first | (go_at_call 19; (first | (with_reducible refine (HNQ.out _ _ (M.at_ pk 0 _ rfl) (M.at_ pk 1 _ rfl)).mono ?_)); rintro _ w1 ⟨rfl, hX⟩; replace M := M.ext hX; clear hX; dsimp only) | (go_at_call 21; (with_reducible refine (HFG.out _ _ _ _ _ _ _ _ _ (M.only tk)).mono ?_); rintro _ w2 ⟨rfl, M1⟩; replace M := M.into tk M1; clear M1; dsimp only [List.cons_append, List.nil_append] at M; dsimp only) | ((with_reducible refine on_region 12 ?_); refine wp_region_mem0 M (by kernel_rfl) (by kernel_rfl) ?_; clear M; intro w' M; (repeat (first | ((with_reducible refine st_load ?_); first | fail | (refine st_load1 M _ _ rfl pk (fun w => ⟨by first | (simp [go_sem]; done) | (simp [go_sem]; rfl), by first | (simp [go_sem]; done) | (simp [go_sem]; rfl)⟩) _ (by rfl) ?_; (first | ((with_reducible refine fastS Tryz.prog rfl ?_); go_big_move; (with_reducible show wpStill _ _ _ _ _ _)) | (with_reducible refine fastSN rfl ?_) | skip)) | (refine st_loadN M _ rfl pk (fun w => ⟨by first | (simp [go_sem]; done) | (simp [go_sem]; rfl), by first | (simp [go_sem]; done) | (simp [go_sem]; rfl)⟩) ?_; (first | ((with_reducible refine fastS Tryz.prog rfl ?_); go_big_move; (with_reducible show wpStill _ _ _ _ _ _)) | (with_reducible refine fastSN rfl ?_) | skip))) | ((with_reducible refine st_quiet rfl rfl (fun K hK => ?_)); (first | go_big_move | go_big_op); refine hK _ ?_; clear hK K) | still_step)); refine wpStill_nil ?_) | ((with_reducible refine on_load ?_); (first | refine xl1 M ?_ | refine xlN M ?_); go_big_move) | ((with_reducible refine on_store ?_); (first | refine xs1 M ?_ | refine xsN M ?_); clear M; intro w' M; (try simp only [List.set_cons_zero, List.set_cons_succ] at M)) | ((with_reducible refine on_box ?_); refine xb M ?_; clear M; intro g w' M; go_big_move) | ((with_reducible refine on_alloc ?_); refine xa M ?_; clear M; intro g w' M; go_big_move)) | go_values | go_skip | go_guarded | go_step | go_upon))
      exact ret_m3 rfl (Out.tmp rfl) (Out.tmp rfl) (Out.tmp rfl) rfl ⟨_, HR.out, rfl, M.ext_of⟩
  | fail a =>
    obtain ⟨q, A', c', out', hq, hl, M1⟩ := hx
    replace M := M.into tk M1
    clear M1
    dsimp only [List.cons_append, List.nil_append] at M
    refine Lib.hid ?_
    have HR : Hid (ParseR s (.no a)) := Lib.hid (ParseR.fail h HE.out hr)
    have HNQ := Lib.hid (fun gr w' => HN2.out q gr w' hq)
    clear hr HN HN2
    have hcase : (kindN (lex s q).kind != 0) = true ∨ (kindN (lex s q).kind != 0) = false := by cases (kindN (lex s q).kind != 0) <;> simp
    generalize textOf s (lex s q) = tx2 at *
    generalize kindN (lex s q).kind = k2 at *
    rcases hcase with k1 | k1
    all_goals
      (try dsimp only); (repeat (first | (first | (go_at_call 19; (first | (with_reducible refine (HNQ.out _ _ (M.at_ pk 0 _ rfl) (M.at_ pk 1 _ rfl)).mono ?_)); rintro _ w1 ⟨rfl, hX⟩; replace M := M.ext hX; clear hX; dsimp only) | (go_at_call 21; (with_reducible refine (HFB.out _ _ _ _ _ _ _ _ _ _ (M.only tk)).mono ?_); rintro _ w2 ⟨rfl, M1⟩; replace M := M.into tk M1; clear M1; dsimp only [List.cons_append, List.nil_append] at M; dsimp only) | ((with_reducible refine on_region 12 ?_); refine wp_region_mem0 M (by kernel_rfl) (by kernel_rfl) ?_; clear M; intro w' M; (repeat (first | ((with_reducible refine st_load ?_); first | fail | (refine st_load1 M _ _ rfl pk (fun w => ⟨by first | (simp [go_sem]; done) | (simp [go_sem]; rfl), by first | (simp [go_sem]; done) | (simp [go_sem]; rfl)⟩) _ (by rfl) ?_; (first | ((with_reducible refine fastS Tryz.prog rfl ?_); go_big_move; (with_reducible show wpStill _ _ _ _ _ _)) | (with_reducible refine fastSN rfl ?_) | skip)) | (refine st_loadN M _ rfl pk (fun w => ⟨by first | (simp [go_sem]; done) | (simp [go_sem]; rfl), by first | (simp [go_sem]; done) | (simp [go_sem]; rfl)⟩) ?_; (first | ((with_reducible refine fastS Tryz.prog rfl ?_); go_big_move; (with_reducible show wpStill _ _ _ _ _ _)) | (with_reducible refine fastSN rfl ?_) | skip))) | ((with_reducible refine st_quiet rfl rfl (fun K hK => ?_)); (first | go_big_move | go_big_op); refine hK _ ?_; clear hK K) | still_step)); refine wpStill_nil ?_) | ((with_reducible refine on_load ?_); (first | refine xl1 M ?_ | refine xlN M ?_); go_big_move) | ((with_reducible refine on_store ?_); (first | refine xs1 M ?_ | refine xsN M ?_); clear M; intro w' M; (try simp only [List.set_cons_zero, List.set_cons_succ] at M)) | ((with_reducible refine on_box ?_); refine xb M ?_; clear M; intro g w' M; go_big_move) | ((with_reducible refine on_alloc ?_); refine xa M ?_; clear M; intro g w' M; go_big_move)) | go_values | go_skip | go_guarded | go_step | go_upon))
      exact ret_m3 rfl (Out.tmp rfl) (Out.tmp rfl) (Out.tmp rfl) rfl ⟨_, HR.out, rfl, M.ext_of⟩
theorem ref_parse (s : List UInt8) (w : World) : RParseIs s w := by
  by_cases h : 512 < s.length
  · exact rparse_long s h w
  have h : s.length ≤ 512 := by omega
  by_cases he : (lex s 0).kind = .ended
  · exact rparse_none s h he w
  · exact rparse_some s h he w
end Go.Proofs.YtkblkdnihppmnaaGreatDoor
