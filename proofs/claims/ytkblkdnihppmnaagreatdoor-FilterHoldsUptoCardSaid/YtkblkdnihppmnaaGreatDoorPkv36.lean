/- Parts of this work, one behind the other: FiltX. -/
import Derived.Test.YtkblkdnihppmnaaGreatDoorPkv30
import Derived.Test.YtkblkdnihppmnaaGreatDoorPkv0
/- Filters (layer 21): the program's Parse (walk, second part): any text. -/
namespace Go.Proofs.YtkblkdnihppmnaaGreatDoor
set_option linter.unusedSimpArgs false
set_option linter.unusedVariables false
open Go.RowKit Res Filt

theorem Mem.frOut {g : Nat} {t : TypeId} {cs : List Value} {w w' : World} {l : List Res} (M : Mem (OutOf [bx g t cs] w) w l w') : Fr (· ≠ g) w w' :=
  Fr.mono M.fr fun x hx hne => ⟨hx, fun r hr => by rw [List.mem_singleton] at hr; subst hr; exact hne⟩
theorem Mem.outGlob {w0 w : World} {l : List Res} {g : Nat} {t : TypeId} {cs : List Value} {f : Res → List Res} (M : Mem (· < w0.heap.size) w0 l w) (p : Pick l (bx g t cs) f) (hg : Tryz.prog.globals.size ≤ w0.heap.size) : ∀ b, b < Tryz.prog.globals.size → OutOf [bx g t cs] w b := by
  intro b hb
  have h1 : w0.heap.size ≤ g := Nat.le_of_not_lt (M.out _ p.mem g rfl)
  refine ⟨Nat.lt_of_lt_of_le hb (Nat.le_trans hg M.fr.size), fun r hr => ?_⟩
  rw [List.mem_singleton] at hr
  subst hr
  intro e
  have e : b = g := e
  omega
def ndO : Option Nd → Value
  | none => .nilIface
  | some n => ndV n
/-- what Parse hands back -/
def PsPost (w : World) : Filt.Out → Ending → World → Prop
  | .no a, e, w' => e = .returned (.tuple #[.pointer none, fi 51, fi (a : Nat)]) ∧ Ext w w'
  | .ok f, e, w' => ∃ g, e = .returned (.tuple #[.pointer (some ⟨g, 0, none⟩), fi 0, fi 0]) ∧ Ext w w' ∧ w.heap.size ≤ g ∧ Box w' g 53 #[ndO f]
abbrev ParseIs (s : List UInt8) (w : World) : Prop := Calls Tryz.prog 7 #[str s] w fun e w' => ∃ o, ParseP s o ∧ PsPost w o e w'
theorem hmf_any : ∀ (fn : Fn) (first cap : Array Value) (w : World), (Instr.makeFunc fn first cap).run Tryz.prog w = .ok (.func fn first cap) w := fun _ _ _ _ => rfl
set_option maxRecDepth 100000 in
set_option maxHeartbeats 800000 in
theorem parse_long (s : List UInt8) (h : 512 < s.length) (w : World) : ParseIs s w := by
  have M := Mem.start w
  have q1 : decide (512 < (s.length : Int)) = true := by simp; omega
  go_enter_defers Tryz.func7, Tryz.ntmps7
  (try dsimp only); (repeat (first | (first | ((with_reducible refine wl_g ?_); first | go_big_want | go_skip | ((with_reducible refine wl_off (by kernel_rfl) ?_); (first | ((with_reducible refine fastK Tryz.prog rfl ?_); go_big_move) | (with_reducible refine fastN rfl ?_) | skip))) | ((with_reducible refine on_load ?_); (first | refine xl1 M ?_ | refine xlN M ?_); go_big_move) | ((with_reducible refine on_store ?_); (first | refine xs1 M ?_ | refine xsN M ?_); clear M; intro w' M; (try simp only [List.set_cons_zero, List.set_cons_succ] at M)) | ((with_reducible refine on_box ?_); refine xb M ?_; clear M; intro g w' M; go_big_move) | ((with_reducible refine on_alloc ?_); refine xa M ?_; clear M; intro g w' M; go_big_move)) | go_values | go_skip | go_guarded | go_step | go_upon))
  show Leaves _ _ _ _ _ _ _
  exact ⟨_, results3 rfl (Out.one M rfl pk (fun w => ⟨by first | (simp [go_sem]; done) | (simp [go_sem]; rfl), by first | (simp [go_sem]; done) | (simp [go_sem]; rfl)⟩) rfl) (Out.one M rfl pk (fun w => ⟨by first | (simp [go_sem]; done) | (simp [go_sem]; rfl), by first | (simp [go_sem]; done) | (simp [go_sem]; rfl)⟩) rfl) (Out.one M rfl pk (fun w => ⟨by first | (simp [go_sem]; done) | (simp [go_sem]; rfl), by first | (simp [go_sem]; done) | (simp [go_sem]; rfl)⟩) rfl), _, ParseP.long h, rfl, M.ext_of⟩
set_option maxRecDepth 100000 in
set_option maxHeartbeats 800000 in
theorem parse_bad (s : List UInt8) (h : s.length ≤ 512) (hbad : (lex s 0).kind = .bad) (w : World) (hN : Nv w) (hg : Tryz.prog.globals.size ≤ w.heap.size) : ParseIs s w := by
  have M := Mem.start w
  have q1 : decide (512 < (s.length : Int)) = false := by simp; omega
  have hmf := hmf_any
  have HC := Lib.hid (fun w => stringsClone s (by omega) w)
  have HN : Hid (∀ (l : List Res) (g : Nat) (w' : World) (f : Res → List Res), Mem (· < w.heap.size) w l w' → Pick l (rd g s 0 0 0 [] 0) f → Mem (OutOf [rd g s 0 0 0 [] 0] w') w' [rd g s 0 0 0 [] 0] w' → Calls Tryz.prog 16 #[.pointer (some ⟨g, 0, none⟩)] w' (NextPost (OutOf [rd g s 0 0 0 [] 0] w') s 0 g 0 w')) := Lib.hid (fun l g w' f M p M' => next_any s (by omega) 0 (Nat.zero_le _) M' (hN.mem (fun b hb => Nat.lt_of_lt_of_le hb hg) M) (M.outGlob p hg))
  have HB := Lib.hid hbad
  clear hbad
  go_enter_defers Tryz.func7, Tryz.ntmps7
  (try dsimp only); (repeat (first | (first | (go_at_call 15; (with_reducible refine (HC.out _).mono ?_); rintro _ w1 ⟨rfl, hX⟩; replace M := M.ext hX; clear hX; dsimp only) | (go_at_call 16; refine (HN.out _ _ _ _ M pk (M.only tk)).mono ?_; rintro _ w1 hx; rcases hx with ⟨hb, _⟩ | ⟨hb, rfl, cs, M1⟩; (focus (exact absurd HB.out hb)); replace M := M.into tk M1; clear M1; dsimp only [List.cons_append, List.nil_append] at M) | ((with_reducible refine wl_g ?_); first | go_big_want | go_skip | ((with_reducible refine wl_off (by kernel_rfl) ?_); (first | ((with_reducible refine fastK Tryz.prog rfl ?_); go_big_move) | (with_reducible refine fastN rfl ?_) | skip))) | ((with_reducible refine on_load ?_); (first | refine xl1 M ?_ | refine xlN M ?_); go_big_move) | ((with_reducible refine on_store ?_); (first | refine xs1 M ?_ | refine xsN M ?_); clear M; intro w' M; (try simp only [List.set_cons_zero, List.set_cons_succ] at M)) | ((with_reducible refine on_box ?_); refine xb M ?_; clear M; intro g w' M; go_big_move) | ((with_reducible refine on_alloc ?_); refine xa M ?_; clear M; intro g w' M; go_big_move)) | go_values | go_skip | go_guarded | go_step | go_upon))
  show Leaves _ _ _ _ _ _ _
  refine leaves_cons (f := 14) (by simp) (by simp [go_sem]; rfl) ?_
  refine (caught_fault _ _ _ _ _ _ _ _ (M.sub tk)).mono ?_
  rintro _ u' w2 ⟨rfl, hu, M2⟩
  dsimp only
  rw [hu]
  exact ⟨_, results3 rfl (Out.one M2 rfl pk (fun w => ⟨by first | (simp [go_sem]; done) | (simp [go_sem]; rfl), by first | (simp [go_sem]; done) | (simp [go_sem]; rfl)⟩) rfl) (Out.one M2 rfl pk (fun w => ⟨by first | (simp [go_sem]; done) | (simp [go_sem]; rfl), by first | (simp [go_sem]; done) | (simp [go_sem]; rfl)⟩) rfl) (Out.one M2 rfl pk (fun w => ⟨by first | (simp [go_sem]; done) | (simp [go_sem]; rfl), by first | (simp [go_sem]; done) | (simp [go_sem]; rfl)⟩) rfl), _, ParseP.bad h HB.out, rfl, M2.ext_of⟩
set_option maxRecDepth 100000 in
set_option maxHeartbeats 800000 in
theorem parse_none (s : List UInt8) (h : s.length ≤ 512) (hend : (lex s 0).kind = .ended) (w : World) (hN : Nv w) (hg : Tryz.prog.globals.size ≤ w.heap.size) : ParseIs s w := by
  have M := Mem.start w
  have q1 : decide (512 < (s.length : Int)) = false := by simp; omega
  have hmf := hmf_any
  have HC := Lib.hid (fun w => stringsClone s (by omega) w)
  have HN : Hid (∀ (l : List Res) (g : Nat) (w' : World) (f : Res → List Res), Mem (· < w.heap.size) w l w' → Pick l (rd g s 0 0 0 [] 0) f → Mem (OutOf [rd g s 0 0 0 [] 0] w') w' [rd g s 0 0 0 [] 0] w' → Calls Tryz.prog 16 #[.pointer (some ⟨g, 0, none⟩)] w' (NextPost (OutOf [rd g s 0 0 0 [] 0] w') s 0 g 0 w')) := Lib.hid (fun l g w' f M p M' => next_any s (by omega) 0 (Nat.zero_le _) M' (hN.mem (fun b hb => Nat.lt_of_lt_of_le hb hg) M) (M.outGlob p hg))
  have HB : Hid ((lex s 0).kind ≠ .bad) := Lib.hid (by rw [hend]; simp)
  have HE := Lib.hid hend
  obtain ⟨a0, a0'⟩ := kindN_eq (i := 0) hend rfl
  clear hend
  go_enter_defers Tryz.func7, Tryz.ntmps7
  (try dsimp only); (repeat (first | (first | (go_at_call 15; (with_reducible refine (HC.out _).mono ?_); rintro _ w1 ⟨rfl, hX⟩; replace M := M.ext hX; clear hX; dsimp only) | (go_at_call 16; refine (HN.out _ _ _ _ M pk (M.only tk)).mono ?_; rintro _ w1 hx; rcases hx with ⟨hb, rfl, M1⟩ | ⟨hb, _⟩; rotate_left; (focus (exact absurd hb HB.out)); replace M := M.into tk M1; clear M1; dsimp only [List.cons_append, List.nil_append] at M; dsimp only) | ((with_reducible refine wl_g ?_); first | go_big_want | go_skip | ((with_reducible refine wl_off (by kernel_rfl) ?_); (first | ((with_reducible refine fastK Tryz.prog rfl ?_); go_big_move) | (with_reducible refine fastN rfl ?_) | skip))) | ((with_reducible refine on_load ?_); (first | refine xl1 M ?_ | refine xlN M ?_); go_big_move) | ((with_reducible refine on_store ?_); (first | refine xs1 M ?_ | refine xsN M ?_); clear M; intro w' M; (try simp only [List.set_cons_zero, List.set_cons_succ] at M)) | ((with_reducible refine on_box ?_); refine xb M ?_; clear M; intro g w' M; go_big_move) | ((with_reducible refine on_alloc ?_); refine xa M ?_; clear M; intro g w' M; go_big_move)) | go_values | go_skip | go_guarded | go_step | go_upon))
  show Leaves _ _ _ _ _ _ _
  refine leaves_cons (f := 14) (by simp) (by simp [go_sem]; rfl) ?_
  refine (caught_idle _ _ _ _).mono ?_
  rintro _ u' _ ⟨rfl, rfl, rfl⟩
  have hN := M.new_bx pk
  exact ⟨_, results3 rfl (Out.one M rfl pk (fun w => ⟨by first | (simp [go_sem]; done) | (simp [go_sem]; rfl), by first | (simp [go_sem]; done) | (simp [go_sem]; rfl)⟩) rfl) (Out.one M rfl pk (fun w => ⟨by first | (simp [go_sem]; done) | (simp [go_sem]; rfl), by first | (simp [go_sem]; done) | (simp [go_sem]; rfl)⟩) rfl) (Out.one M rfl pk (fun w => ⟨by first | (simp [go_sem]; done) | (simp [go_sem]; rfl), by first | (simp [go_sem]; done) | (simp [go_sem]; rfl)⟩) rfl), _, ParseP.none h HE.out, _, rfl, M.ext_of, hN.1, hN.2⟩
set_option maxRecDepth 100000 in
set_option maxHeartbeats 800000 in
theorem parse_some (s : List UInt8) (h : s.length ≤ 512) (hb0 : (lex s 0).kind ≠ .bad) (he : (lex s 0).kind ≠ .ended) (w : World) (hN : Nv w) (hg : Tryz.prog.globals.size ≤ w.heap.size) : ParseIs s w := by
  have M := Mem.start w
  have q1 : decide (512 < (s.length : Int)) = false := by simp; omega
  have hmf := hmf_any
  have HC := Lib.hid (fun w => stringsClone s (by omega) w)
  have HN : Hid (∀ (l : List Res) (g : Nat) (w' : World) (f : Res → List Res), Mem (· < w.heap.size) w l w' → Pick l (rd g s 0 0 0 [] 0) f → Mem (OutOf [rd g s 0 0 0 [] 0] w') w' [rd g s 0 0 0 [] 0] w' → Calls Tryz.prog 16 #[.pointer (some ⟨g, 0, none⟩)] w' (NextPost (OutOf [rd g s 0 0 0 [] 0] w') s 0 g 0 w')) := Lib.hid (fun l g w' f M p M' => next_any s (by omega) 0 (Nat.zero_le _) M' (hN.mem (fun b hb => Nat.lt_of_lt_of_le hb hg) M) (M.outGlob p hg))
  have HB := Lib.hid hb0
  have HE := Lib.hid he
  obtain ⟨a0, a0'⟩ := kindN_no (i := 0) he hb0 rfl
  have HA : Hid (∀ (l : List Res) (g : Nat) (w' : World) (f : Res → List Res), Mem (· < w.heap.size) w l w' → Pick l (rp g s 0 0) f → Mem (OutOf [rp g s 0 0] w') w' [rp g s 0 0] w' → Calls Tryz.prog 17 #[.pointer (some ⟨g, 0, none⟩)] w' fun e w'' => ∃ r, Reads (lang s) true .any 0 0 r ∧ RdPost (OutOf [rp g s 0 0] w') s g 0 w' r e w'') :=
    Lib.hid (fun l g w' f M p M' => parser_any s (by omega) _ g 0 w' w' (Nat.zero_le _) hb0 M' (hN.mem (fun b hb => Nat.lt_of_lt_of_le hb hg) M) (M.outGlob p hg))
  have HF : Hid (∀ (g p : Nat) (w' : World), w'.cell? ⟨g, 3, none⟩ = some (fi ((lex s p).at_ : Nat)) → Calls Tryz.prog 18 #[.pointer (some ⟨g, 0, none⟩)] w' fun e w'' => e = .panicked (faultAt ((lex s p).at_ : Nat)) ∧ w' = w'') := Lib.hid (fun g p w' h3 => fail_any g _ w' h3)
  clear hb0 he
  go_enter_defers Tryz.func7, Tryz.ntmps7
  (try dsimp only); (repeat (first | (first | (go_at_call 15; (with_reducible refine (HC.out _).mono ?_); rintro _ w1 ⟨rfl, hX⟩; replace M := M.ext hX; clear hX; dsimp only) | (go_at_call 16; refine (HN.out _ _ _ _ M pk (M.only tk)).mono ?_; rintro _ w1 hx; rcases hx with ⟨hb, rfl, M1⟩ | ⟨hb, _⟩; rotate_left; (focus (exact absurd hb HB.out)); replace M := M.into tk M1; clear M1; dsimp only [List.cons_append, List.nil_append] at M; dsimp only)  | ((with_reducible refine wl_g ?_); first | go_big_want | go_skip | ((with_reducible refine wl_off (by kernel_rfl) ?_); (first | ((with_reducible refine fastK Tryz.prog rfl ?_); go_big_move) | (with_reducible refine fastN rfl ?_) | skip))) | ((with_reducible refine on_load ?_); (first | refine xl1 M ?_ | refine xlN M ?_); go_big_move) | ((with_reducible refine on_store ?_); (first | refine xs1 M ?_ | refine xsN M ?_); clear M; intro w' M; (try simp only [List.set_cons_zero, List.set_cons_succ] at M)) | ((with_reducible refine on_box ?_); refine xb M ?_; clear M; intro g w' M; go_big_move) | ((with_reducible refine on_alloc ?_); refine xa M ?_; clear M; intro g w' M; go_big_move)) | go_values | go_skip | go_guarded | go_step | go_upon))
  ((with_reducible refine on_region 9 ?_); refine wp_region_keepD M [2] 5 [(0, true), (1, true), (2, false), (3, true), (4, true), (5, false)] (by kernel_rfl) (by kernel_rfl) rfl (by kernel_rfl) ?_; clear M; intro w' M; ((first | refine zl1 M 2 ?_ | refine zlN M 2 ?_); (first | simp only [Act.put, List.setIfInBounds_toArray, List.set_cons_zero, List.set_cons_succ] | skip)); ((refine wpSch_q ?_ rfl rfl (fun w' hR => ?_) ?_); rotate_left; (focus (go_simp; first | rfl | rw [if_neg (by simp; omega)] | rw [if_neg (by omega)] | rw [if_pos (by omega)] | (rw [if_pos (by omega)]; simp; done))); (first | simp only [Act.put, List.setIfInBounds_toArray, List.set_cons_zero, List.set_cons_succ] | skip)); (refine wpSch_e rfl rfl (fun K hK => ?_); go_simp; refine (HA.out _ _ _ _ M pk (M.only tk)).mono ?_; rintro _ w1 ⟨r, hr, hx⟩; cases r; (case fail a => (obtain ⟨rfl, cs, M1⟩ := hx; replace M := M.into tk M1; clear M1; dsimp only [List.cons_append, List.nil_append] at M; (show Leaves _ _ _ _ _ _ _); refine leaves_cons (f := 14) (by simp) (by simp [go_sem]; rfl) ?_; refine (caught_fault _ _ _ _ _ _ _ _ (M.sub tk)).mono ?_; rintro _ u' w2 ⟨rfl, hu, M2⟩; dsimp only; rw [hu]; exact ⟨_, results3 rfl (Out.one M2 rfl pk (fun w => ⟨by first | (simp [go_sem]; done) | (simp [go_sem]; rfl), by first | (simp [go_sem]; done) | (simp [go_sem]; rfl)⟩) rfl) (Out.one M2 rfl pk (fun w => ⟨by first | (simp [go_sem]; done) | (simp [go_sem]; rfl), by first | (simp [go_sem]; done) | (simp [go_sem]; rfl)⟩) rfl) (Out.one M2 rfl pk (fun w => ⟨by first | (simp [go_sem]; done) | (simp [go_sem]; rfl), by first | (simp [go_sem]; done) | (simp [go_sem]; rfl)⟩) rfl), _, ParseP.fail h HB.out HE.out hr, rfl, M2.ext_of⟩)); rename_i n q; obtain ⟨rfl, hq, hbq, M1⟩ := hx; obtain ⟨t2, v2, e2⟩ := ndV_iface n; rw [e2]; have E2 := Lib.hid e2; clear e2; refine hK _ _ (fun _ => keepR.fr M1.frOut (by (repeat (first | exact OffB.nil | refine OffB.cons rfl (M.ne2 tk) ?_)); done)) ?_; replace M := M.into tk M1; clear M1; dsimp only [List.cons_append, List.nil_append] at M; clear hK K; (first | simp only [Act.put, List.setIfInBounds_toArray, List.set_cons_zero, List.set_cons_succ] | skip)); (iterate 2 ((refine wpSch_q ?_ rfl rfl (fun w' hR => ?_) ?_); rotate_left; (focus (go_simp; first | rfl | rw [if_neg (by simp; omega)] | rw [if_neg (by omega)] | rw [if_pos (by omega)] | (rw [if_pos (by omega)]; simp; done))); (first | simp only [Act.put, List.setIfInBounds_toArray, List.set_cons_zero, List.set_cons_succ] | skip))); (refine wpSch_e rfl rfl (fun K hK => ?_); (first | refine zsC M ?_ | refine zsN M ?_ | refine zs1 M ?_); intro w' hF M'; refine hK _ _ (by first | exact (fun h => absurd rfl h) | exact (fun _ => keepR.fr hF (by (repeat (first | exact OffB.nil | refine OffB.cons rfl (M.ne2 tk) ?_)); done))) ?_; clear hF; replace M := M'; clear M'; (try simp only [List.set_cons_zero, List.set_cons_succ] at M); clear hK K; (first | simp only [Act.put, List.setIfInBounds_toArray, List.set_cons_zero, List.set_cons_succ] | skip)); refine wpSch_nil ?_)
  by_cases hq0 : (lex s q).kind = .ended
  · have HQ := Lib.hid hq0
    obtain ⟨c0, c0'⟩ := kindN_eq (i := 0) hq0 rfl
    clear hq0 hbq
    (try dsimp only); (repeat (first | (first | ((with_reducible refine wl_g ?_); first | go_big_want | go_skip | ((with_reducible refine wl_off (by kernel_rfl) ?_); (first | ((with_reducible refine fastK Tryz.prog rfl ?_); go_big_move) | (with_reducible refine fastN rfl ?_) | skip))) | ((with_reducible refine on_load ?_); (first | refine xl1 M ?_ | refine xlN M ?_); go_big_move) | ((with_reducible refine on_store ?_); (first | refine xs1 M ?_ | refine xsN M ?_); clear M; intro w' M; (try simp only [List.set_cons_zero, List.set_cons_succ] at M)) | ((with_reducible refine on_box ?_); refine xb M ?_; clear M; intro g w' M; go_big_move) | ((with_reducible refine on_alloc ?_); refine xa M ?_; clear M; intro g w' M; go_big_move)) | go_values | go_skip | go_guarded | go_step | go_upon))
    show Leaves _ _ _ _ _ _ _
    refine leaves_cons (f := 14) (by simp) (by simp [go_sem]; rfl) ?_
    refine (caught_idle _ _ _ _).mono ?_
    rintro _ u' _ ⟨rfl, rfl, rfl⟩
    have hB := M.new_bx (g := g) pk
    exact ⟨_, results3 rfl (Out.one M rfl pk (fun w => ⟨by first | (simp [go_sem]; done) | (simp [go_sem]; rfl), by first | (simp [go_sem]; done) | (simp [go_sem]; rfl)⟩) rfl) (Out.one M rfl pk (fun w => ⟨by first | (simp [go_sem]; done) | (simp [go_sem]; rfl), by first | (simp [go_sem]; done) | (simp [go_sem]; rfl)⟩) rfl) (Out.one M rfl pk (fun w => ⟨by first | (simp [go_sem]; done) | (simp [go_sem]; rfl), by first | (simp [go_sem]; done) | (simp [go_sem]; rfl)⟩) rfl), _, ParseP.ok h HB.out HE.out hr HQ.out, _, rfl, M.ext_of, hB.1, by have := hB.2; rw [← E2.out] at this; exact this⟩
  · have HQ := Lib.hid hq0
    obtain ⟨c0, c0'⟩ := kindN_no (i := 0) hq0 hbq rfl
    clear hq0 hbq
    (try dsimp only); (repeat (first | (first | (go_at_call 18; (with_reducible refine (HF.out _ _ _ (M.at_ pk 3 _ rfl)).mono ?_); rintro _ w1 ⟨rfl, rfl⟩) | ((with_reducible refine wl_g ?_); first | go_big_want | go_skip | ((with_reducible refine wl_off (by kernel_rfl) ?_); (first | ((with_reducible refine fastK Tryz.prog rfl ?_); go_big_move) | (with_reducible refine fastN rfl ?_) | skip))) | ((with_reducible refine on_load ?_); (first | refine xl1 M ?_ | refine xlN M ?_); go_big_move) | ((with_reducible refine on_store ?_); (first | refine xs1 M ?_ | refine xsN M ?_); clear M; intro w' M; (try simp only [List.set_cons_zero, List.set_cons_succ] at M)) | ((with_reducible refine on_box ?_); refine xb M ?_; clear M; intro g w' M; go_big_move) | ((with_reducible refine on_alloc ?_); refine xa M ?_; clear M; intro g w' M; go_big_move)) | go_values | go_skip | go_guarded | go_step | go_upon))
    show Leaves _ _ _ _ _ _ _
    refine leaves_cons (f := 14) (by simp) (by simp [go_sem]; rfl) ?_
    refine (caught_fault _ _ _ _ _ _ _ _ (M.sub tk)).mono ?_
    rintro _ u' w2 ⟨rfl, hu, M2⟩
    dsimp only
    rw [hu]
    exact ⟨_, results3 rfl (Out.one M2 rfl pk (fun w => ⟨by first | (simp [go_sem]; done) | (simp [go_sem]; rfl), by first | (simp [go_sem]; done) | (simp [go_sem]; rfl)⟩) rfl) (Out.one M2 rfl pk (fun w => ⟨by first | (simp [go_sem]; done) | (simp [go_sem]; rfl), by first | (simp [go_sem]; done) | (simp [go_sem]; rfl)⟩) rfl) (Out.one M2 rfl pk (fun w => ⟨by first | (simp [go_sem]; done) | (simp [go_sem]; rfl), by first | (simp [go_sem]; done) | (simp [go_sem]; rfl)⟩) rfl), _, ParseP.more h HB.out HE.out hr HQ.out, rfl, M2.ext_of⟩
theorem parse_any (s : List UInt8) (w : World) (hN : Nv w) (hg : Tryz.prog.globals.size ≤ w.heap.size) : ParseIs s w := by
  by_cases h : 512 < s.length
  · exact parse_long s h w
  have h : s.length ≤ 512 := by omega
  by_cases hb : (lex s 0).kind = .bad
  · exact parse_bad s h hb w hN hg
  by_cases he : (lex s 0).kind = .ended
  · exact parse_none s h he w hN hg
  · exact parse_some s h hb he w hN hg
end Go.Proofs.YtkblkdnihppmnaaGreatDoor
