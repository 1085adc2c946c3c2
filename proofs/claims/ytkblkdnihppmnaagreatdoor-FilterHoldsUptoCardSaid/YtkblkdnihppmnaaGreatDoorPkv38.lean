/- Parts of this work, one behind the other: Rfj, FiltYf. -/
import Derived.Test.YtkblkdnihppmnaaGreatDoorPkv33
import Derived.Test.YtkblkdnihppmnaaGreatDoorPkv34
import Derived.Test.YtkblkdnihppmnaaGreatDoorPkv35
import Derived.Test.YtkblkdnihppmnaaGreatDoorPkv27
import Derived.Test.YtkblkdnihppmnaaGreatDoorPkv16
import Derived.Test.YtkblkdnihppmnaaGreatDoorPkv36
/- Filters (layer 21): the document's reader (walk): test, one, any, of any text. -/
namespace Go.Proofs.YtkblkdnihppmnaaGreatDoor
set_option linter.unusedSimpArgs false
set_option linter.unusedVariables false
open Go.RowKit Res Filt

theorem refFind_in {fs : List (List UInt8)} {x : List UInt8} (hx : x ≠ []) (h : fs.idxOf x < fs.length) : refFind fs x = (fs.idxOf x : Int) := by unfold refFind; rw [if_pos ⟨hx, h⟩]
theorem refFind_out {fs : List (List UInt8)} {x : List UInt8} (h : ¬ fs.idxOf x < fs.length) : refFind fs x = -1 := by unfold refFind; rw [if_neg (fun k => h k.2)]
theorem word_ne {s : List UInt8} {p : Nat} (h : (lex s p).kind = .word) : textOf s (lex s p) ≠ [] := by
  obtain ⟨c, r, e, -⟩ := word_head h
  rw [e]
  simp
theorem find_status {x : List UInt8} (hx : x ≠ []) : (statusNames.idxOf x < 7 → refFind (([] : List UInt8) :: statusNames) x = (statusNames.idxOf x : Int) + 1) ∧ (¬ statusNames.idxOf x < 7 → refFind (([] : List UInt8) :: statusNames) x = -1) := by
  have e : (([] : List UInt8) :: statusNames).idxOf x = statusNames.idxOf x + 1 := by
    rw [List.idxOf_cons]
    have : (([] : List UInt8) == x) = false := by rw [beq_eq_false_iff_ne]; exact fun e => hx e.symm
    rw [this]
    rfl
  have hl : (([] : List UInt8) :: statusNames).length = 8 := rfl
  constructor
  · intro h
    rw [refFind_in hx (by rw [e, hl]; omega), e]
    omega
  · intro h
    exact refFind_out (by rw [e, hl]; omega)
theorem rtest_any (s : List UInt8) (hs : s.length ≤ 1048576) (d : Int) (S : Nat → Prop) (gr p : Nat) (A : Option Addr) (c : Nat) (out : List FN) (w0 w : World) (hp : p ≤ s.length) (hout : out.length ≤ p) (M : Mem S w0 [rx gr s p false 0 A out.length c d, ro A c out] w) :
    Calls Tryz.prog 62 #[.pointer (some ⟨gr, 0, none⟩)] w fun e w' => e = .returned (.tuple #[]) ∧ RxPost S s gr p d w0 out 0 ((lang s).test false p) w' := by
  by_cases h0 : (lex s p).kind = .word
  rotate_left
  · refine rtest_kind s hs d S gr p A c out w0 w hp hout M _ rfl (fun h => h0 h.1) ?_
    cases hk : (lex s p).kind <;> first | exact absurd hk h0 | rfl
  have k0 : (kindN (lex s p).kind != 1) = false := by rw [h0]; rfl
  by_cases hf14 : fieldOf s p < 14
  rotate_left
  · have hv := refFind_out (fs := fieldNames) (x := textOf s (lex s p)) hf14
    exact rtest_name s hs d S gr p A c out w0 w hp hout M _ hv (fun h => hf14 h.2) k0 (by decide)
  have hx : isField s p := ⟨h0, hf14⟩
  have hv0 : refFind fieldNames (textOf s (lex s p)) = (fieldOf s p : Int) := refFind_in (word_ne h0) hf14
  have hp1 : (lex s p).next ≤ s.length := (next_le hp (by rw [h0]; simp)).2
  have hl1 : p < (lex s p).next := next_gt (by rw [h0]; simp) (by rw [h0]; simp)
  have hdf : decide ((fieldOf s p : Int) < 0) = false := decide_eq_false (by omega)
  by_cases h1 : (lex s (lex s p).next).kind = .mark
  rotate_left
  · refine rtest_ask_kind s hs d S gr p A c out w0 w hp hout M _ _ hv0 rfl hp1 (by omega) hx (fun h => h1 h.1) k0 hdf ?_
    cases hk : (lex s (lex s p).next).kind <;> first | exact absurd hk h1 | rfl
  have k1 : (kindN (lex s (lex s p).next).kind != 4) = false := by rw [h1]; rfl
  by_cases hk6 : askOf s (lex s p).next < 6
  rotate_left
  · have hv := refFind_out (fs := askNames) (x := textOf s (lex s (lex s p).next)) hk6
    exact rtest_ask_name s hs d S gr p A c out w0 w hp hout M _ _ hv0 hv hp1 (by omega) hx (fun h => hk6 h.2) k0 hdf k1 (by decide)
  have hy : isAsk s (lex s p).next := ⟨h1, hk6⟩
  have hne1 : textOf s (lex s (lex s p).next) ≠ [] := fun e => by
    have : askNames.idxOf (textOf s (lex s (lex s p).next)) < 6 := hk6
    rw [e] at this
    revert this
    decide
  have hv1 : refFind askNames (textOf s (lex s (lex s p).next)) = (askOf s (lex s p).next : Int) := refFind_in hne1 hk6
  have hb1 : (lex s (lex s p).next).kind ≠ .bad := by rw [h1]; simp
  have hp2 : (lex s (lex s p).next).next ≤ s.length := (next_le hp1 hb1).2
  have hl2 : (lex s p).next ≤ (lex s (lex s p).next).next := next_ge _
  have hl3 := next_ge (s := s) (lex s (lex s p).next).next
  have nx3 : (lex s (lex s (lex s p).next).next).kind ≠ .bad → (lex s (lex s (lex s p).next).next).next ≤ s.length := fun h => (next_le hp2 h).2
  by_cases hi : fieldOf s p = 13
  · have hv0' : refFind fieldNames (textOf s (lex s p)) = 13 := by rw [hv0, hi]; rfl
    by_cases h2 : (lex s (lex s (lex s p).next).next).kind = .quoted
    · obtain ⟨l, ht2, hl, h64⟩ := quoted_text h2
      refine rtest_id_quoted s hs d S gr p A c out w0 w hp hout M _ l hv0' hv1 _ rfl hp1 (by omega) hp2 (by omega) (nx3 (by rw [h2]; simp)) (by omega) hx hy ?_ ht2 h64 k0 k1 (by rw [h2]; rfl)
      unfold testVal
      rw [if_pos ⟨hi, h2⟩, ht2]
      simp
    · refine rtest_id_none s hs d S gr p A c out w0 w hp hout M _ hv0' hv1 _ rfl hp1 (by omega) hp2 (by omega) hx hy ?_ k0 k1 ?_
      · unfold testVal
        rw [if_neg (fun h => h2 h.2), if_neg (fun h => h.1 hi), if_neg (fun h => by rw [hi] at h; exact absurd h.1 (by decide))]
      · cases hk : (lex s (lex s (lex s p).next).next).kind <;> first | exact absurd hk h2 | rfl
  · have hf13 : ((fieldOf s p : Int) == 13) = false := by rw [beq_eq_false_iff_ne]; omega
    have hf13b : ((fieldOf s p : Int) != 13) = true := by rw [bne_iff_ne]; omega
    by_cases h2 : (lex s (lex s (lex s p).next).next).kind = .digits
    · obtain ⟨v, hv⟩ := digits_num h2
      have hle := nx3 (by rw [h2]; simp)
      refine rtest_num_digits s hs d S gr p A c out w0 w hp hout M _ _ hv0 hv1 _ rfl v hf13 hf13b hp1 (by omega) hp2 (by omega) hle (by omega) hx hy ?_ hv ?_ k0 k1 (by rw [h2]; rfl)
      · unfold testVal
        rw [if_neg (fun h => hi h.1), if_pos ⟨hi, h2⟩, hv]
        rfl
      · unfold textOf
        rw [List.length_take, List.length_drop]
        omega
    have k2 : (kindN (lex s (lex s (lex s p).next).next).kind == 2) = false := by
      cases hk : (lex s (lex s (lex s p).next).next).kind <;> first | exact absurd hk h2 | rfl
    by_cases hst : fieldOf s p = 2
    rotate_left
    · refine rtest_num_none s hs d S gr p A c out w0 w hp hout M _ _ hv0 hv1 _ rfl hf13 hf13b (by rw [beq_eq_false_iff_ne]; omega) hp1 (by omega) hp2 (by omega) hx hy ?_ k0 k1 k2
      unfold testVal
      rw [if_neg (fun h => hi h.1), if_neg (fun h => h2 h.2), if_neg (fun h => hst h.1)]
    have hs2 : ((fieldOf s p : Int) == 2) = true := by rw [beq_iff_eq]; omega
    by_cases h3 : (lex s (lex s (lex s p).next).next).kind = .word
    rotate_left
    · refine rtest_status_kind s hs d S gr p A c out w0 w hp hout M _ _ hv0 hv1 _ rfl hf13 hf13b hs2 hp1 (by omega) hp2 (by omega) hx hy ?_ k0 k1 k2 ?_
      · unfold testVal
        rw [if_neg (fun h => hi h.1), if_neg (fun h => h2 h.2), if_neg (fun h => h3 h.2.1)]
      · cases hk : (lex s (lex s (lex s p).next).next).kind <;> first | exact absurd hk h3 | rfl
    have hfs := find_status (word_ne h3)
    have k3 : (kindN (lex s (lex s (lex s p).next).next).kind == 1) = true := by rw [h3]; rfl
    by_cases hidx : statusNames.idxOf (textOf s (lex s (lex s (lex s p).next).next)) < 7
    · refine rtest_status s hs d S gr p A c out w0 w hp hout M _ _ hv0 hv1 _ (hfs.1 hidx) hf13 hf13b hs2 hp1 (by omega) hp2 (by omega) (nx3 (by rw [h3]; simp)) (by omega) hx hy ?_ k0 k1 k2 k3 (by simp)
      unfold testVal
      rw [if_neg (fun h => hi h.1), if_neg (fun h => h2 h.2), if_pos ⟨hst, h3, hidx⟩]
    · refine rtest_status_none s hs d S gr p A c out w0 w hp hout M _ _ hv0 hv1 _ (hfs.2 hidx) hf13 hf13b hs2 hp1 (by omega) hp2 (by omega) hx hy ?_ k0 k1 k2 k3 (by decide)
      unfold testVal
      rw [if_neg (fun h => hi h.1), if_neg (fun h => h2 h.2), if_neg (fun h => hidx h.2.2)]
theorem rone_of (s : List UInt8) (hs : s.length ≤ 1048576) (d : Nat) (hd : d ≤ 32) (hone : d ≠ 32 → RAt 50 .one s (d + 1) (2 * (32 - (d + 1)))) (hany : d ≠ 32 → RAt 20 .any s (d + 1) (2 * (32 - d))) :
    RAt 50 .one s d (2 * (32 - d)) := by
  intro S gr p A c out w0 w hp hout M
  have hc : ((d + 1 : Nat) : Int) = (d : Int) + 1 := by omega
  by_cases hN : isWord s p wNot
  · obtain ⟨hk, ht⟩ := isNot_iff.1 hN
    have f0 : (kindN (lex s p).kind == 4) = false := by rw [hk]; rfl
    have f1 : (kindN (lex s p).kind == 1) = true := by rw [hk]; rfl
    have f2 : (textOf s (lex s p) == [110, 111, 116]) = true := by rw [ht]; rfl
    by_cases h32 : d = 32
    · exact rone_deep_not s hs d hd S gr p A c out w0 w hp hout M f0 f1 f2 hN h32
    · refine rone_not s hs d hd S gr p A c out w0 w hp hout M f0 f1 f2 hN h32 (Lib.hid fun S p A c out w0 w hp ho M => ?_)
      have := hone h32 S gr p A c out w0 w hp ho (by rw [hc]; exact M)
      rwa [hc] at this
  by_cases hO : isWord s p wOpen
  · obtain ⟨hk, ht⟩ := isOpen_iff.1 hO
    have f0 : (kindN (lex s p).kind == 4) = true := by rw [hk]; rfl
    have f1 : (textOf s (lex s p) == [40]) = true := by rw [ht]; rfl
    have f2 : (kindN (lex s p).kind == 1) = false := by rw [hk]; rfl
    by_cases h32 : d = 32
    · exact rone_deep_open s hs d hd S gr p A c out w0 w hp hout M f0 f1 f2 hO h32
    · refine rone_open s hs d hd S gr p A c out w0 w hp hout M f0 f1 f2 hO hN h32 (Lib.hid fun S p A c out w0 w hp ho M => ?_)
      have := hany h32 S gr p A c out w0 w hp ho (by rw [hc]; exact M)
      rwa [hc] at this
  have HT := Lib.hid (fun (S : Nat → Prop) (w0 w : World) (M : Mem S w0 [rx gr s p false 0 A out.length c (d : Int), ro A c out] w) => rtest_any s hs d S gr p A c out w0 w hp hout M)
  by_cases h1 : (lex s p).kind = .word
  · refine rone_test_word s hs d hd S gr p A c out w0 w hp hout M (by rw [h1]; rfl) (by rw [h1]; rfl) ?_ hN hO HT
    rw [beq_eq_false_iff_ne]
    exact fun e => hN ⟨.inl h1, e⟩
  by_cases h4 : (lex s p).kind = .mark
  · refine rone_test_mark s hs d hd S gr p A c out w0 w hp hout M (by rw [h4]; rfl) ?_ (by rw [h4]; rfl) hN hO HT
    rw [beq_eq_false_iff_ne]
    exact fun e => hO ⟨.inr h4, e⟩
  · refine rone_test_else s hs d hd S gr p A c out w0 w hp hout M ?_ ?_ hN hO HT
    · cases hk : (lex s p).kind <;> first | exact absurd hk h4 | rfl
    · cases hk : (lex s p).kind <;> first | exact absurd hk h1 | rfl
theorem rany_any (s : List UInt8) (hs : s.length ≤ 1048576) (d : Nat) (hd : d ≤ 32) (h : RAt 50 .one s d (2 * (32 - d))) : RAt 20 .any s d (2 * (32 - d) + 2) :=
  rany_of s hs d _ (by omega) (rall_of s hs d _ (by omega) h)
theorem rparser_at (s : List UInt8) (hs : s.length ≤ 1048576) : ∀ (k d : Nat), d + k = 32 → RAt 50 .one s d (2 * (32 - d)) ∧ RAt 20 .any s d (2 * (32 - d) + 2)
  | 0, d, h => by
    have h1 := rone_of s hs d (by omega) (fun h2 => absurd (by omega) h2) (fun h2 => absurd (by omega) h2)
    exact ⟨h1, rany_any s hs d (by omega) h1⟩
  | k + 1, d, h => by
    have ih := rparser_at s hs k (d + 1) (by omega)
    have h1 := rone_of s hs d (by omega) (fun _ => ih.1) (fun _ => by have := ih.2; rwa [show 2 * (32 - (d + 1)) + 2 = 2 * (32 - d) by omega] at this)
    exact ⟨h1, rany_any s hs d (by omega) h1⟩
theorem rparser_any (s : List UInt8) (hs : s.length ≤ 1048576) : RAt 20 .any s 0 66 := (rparser_at s hs 32 0 rfl).2
end Go.Proofs.YtkblkdnihppmnaaGreatDoor
/- Filters (layer 21): what a filter holds of (walk, last part). -/
namespace Go.Proofs.YtkblkdnihppmnaaGreatDoor
set_option linter.unusedSimpArgs false
set_option linter.unusedVariables false
open Go.RowKit Res Filt

set_option maxRecDepth 100000 in
set_option maxHeartbeats 800000 in
theorem filter_calls (n : Nd) (g : Nat) (b : Bool) (k0 k1 k2 k3 k4 k5 k6 k7 k8 k9 k10 k11 k12 k13 k14 k15 k16 : Value) (w : World) (hb : Box w g 53 #[.iface (tyV n) (payV n)])
    (HH : Hid (∀ w', Ext w w' → Calls Tryz.prog (holdsF n) #[payV n, .agg #[k0, k1, k2, k3, k4, k5, k6, k7, k8, k9, k10, k11, k12, k13, k14, k15, k16]] w' fun e w'' => e = .returned (.bool b) ∧ Ext w' w'')) :
    Calls Tryz.prog 9 #[.pointer (some ⟨g, 0, none⟩), .agg #[k0, k1, k2, k3, k4, k5, k6, k7, k8, k9, k10, k11, k12, k13, k14, k15, k16]] w fun e w' => e = .returned (.bool b) ∧ Ext w w' := by
  have M := Mem.start w
  have hc : w.cell? ⟨g, 0, none⟩ = some (.iface (tyV n) (payV n)) := by rw [hb.cell]; rfl
  have hbz : g < w.heap.size := hb.lt
  have q0 : ∀ w : World, (binOp BinOp.neq 22 (.pointer (some ⟨g, 0, none⟩)) (.pointer none)).run Tryz.prog w = .ok (.bool true) w := fun _ => by kernel_rfl
  have q1 : ∀ w : World, (binOp BinOp.eql 51 (.iface (tyV n) (payV n)) .nilIface).run Tryz.prog w = .ok (.bool false) w := fun _ => by kernel_rfl
  have HM := Lib.hid (method_holds n)
  have HC := Lib.hid (call_holds n)
  clear hb
  go_enter Tryz.func9, Tryz.ntmps9
  (try dsimp only); (repeat (first | (first | fail | ((with_reducible refine on_load ?_); (first | refine xl1 M ?_ | refine xlN M ?_); go_big_move) | ((with_reducible refine on_box ?_); refine xb M ?_; clear M; intro g w' M; go_big_move)) | go_values | go_skip | go_guarded | go_step | go_upon))
  ((with_reducible refine on_region 1 ?_); refine wp_region_keepX M [0, 3] 18 [(0, true), (1, true), (2, true), (3, true), (4, true), (5, true), (6, true), (7, true), (8, true), (9, true), (10, true), (11, true), (12, true), (13, true), (14, false), (15, true), (16, true), (17, true)] (by kernel_rfl) (by kernel_rfl) (fun _ _ d _ _ h => by cases d <;> exact h) ?_; clear M; intro w' M; (iterate 3 ((refine wpSch_q ?_ rfl rfl (fun w' hR => ?_) ?_); rotate_left; (focus (go_simp; first | rfl | rw [if_neg (by simp; omega)] | rw [if_neg (by omega)] | rw [if_pos (by omega)] | (rw [if_pos (by omega)]; simp; done))); (first | simp only [Act.put, List.setIfInBounds_toArray, List.set_cons_zero, List.set_cons_succ] | skip))); (iterate 3 (first | ((refine wpSch_skip (fun _ => keepX.refl _) rfl rfl ?_); (first | simp only [Act.put, List.setIfInBounds_toArray, List.set_cons_zero, List.set_cons_succ] | skip)) | ((refine wpSch_q ?_ rfl rfl (fun w' hR => ?_) ?_); rotate_left; (focus (go_simp; first | rfl | rw [if_neg (by simp; omega)] | rw [if_neg (by omega)] | rw [if_pos (by omega)] | (rw [if_pos (by omega)]; simp; done))); (first | simp only [Act.put, List.setIfInBounds_toArray, List.set_cons_zero, List.set_cons_succ] | skip)))); (first | ((refine wpSch_skip (fun _ => keepX.refl _) rfl rfl ?_); (first | simp only [Act.put, List.setIfInBounds_toArray, List.set_cons_zero, List.set_cons_succ] | skip)) | (first | (refine sch_load1XG M 0 rfl rfl (by decide) _ _ rfl _ rfl pk (fun w => ⟨by first | (simp [go_sem]; done) | (simp [go_sem]; rfl), by first | (simp [go_sem]; done) | (simp [go_sem]; rfl)⟩) _ (by rfl) ?_; (first | simp only [Act.put, List.setIfInBounds_toArray, List.set_cons_zero, List.set_cons_succ] | skip)) | (refine sch_loadNXG M 0 rfl rfl (by decide) _ _ rfl rfl pk (fun w => ⟨by first | (simp [go_sem]; done) | (simp [go_sem]; rfl), by first | (simp [go_sem]; done) | (simp [go_sem]; rfl)⟩) ?_; (first | simp only [Act.put, List.setIfInBounds_toArray, List.set_cons_zero, List.set_cons_succ] | skip)) | (refine sch_cellXG rfl rfl _ _ rfl _ (M.far hc) (by assumption) (fun w => ⟨by first | (simp [go_sem]; done) | (simp [go_sem]; rfl), by first | (simp [go_sem]; done) | (simp [go_sem]; rfl)⟩) ?_; (first | simp only [Act.put, List.setIfInBounds_toArray, List.set_cons_zero, List.set_cons_succ] | skip)))); (iterate 5 (first | ((refine wpSch_skip (fun _ => keepX.refl _) rfl rfl ?_); (first | simp only [Act.put, List.setIfInBounds_toArray, List.set_cons_zero, List.set_cons_succ] | skip)) | ((refine wpSch_q ?_ rfl rfl (fun w' hR => ?_) ?_); rotate_left; (focus (go_simp; first | rfl | rw [if_neg (by simp; omega)] | rw [if_neg (by omega)] | rw [if_pos (by omega)] | (rw [if_pos (by omega)]; simp; done))); (first | simp only [Act.put, List.setIfInBounds_toArray, List.set_cons_zero, List.set_cons_succ] | skip)))); (first | ((refine wpSch_skip (fun _ => keepX.refl _) rfl rfl ?_); (first | simp only [Act.put, List.setIfInBounds_toArray, List.set_cons_zero, List.set_cons_succ] | skip)) | (first | (refine sch_load1XG M 0 rfl rfl (by decide) _ _ rfl _ rfl pk (fun w => ⟨by first | (simp [go_sem]; done) | (simp [go_sem]; rfl), by first | (simp [go_sem]; done) | (simp [go_sem]; rfl)⟩) _ (by rfl) ?_; (first | simp only [Act.put, List.setIfInBounds_toArray, List.set_cons_zero, List.set_cons_succ] | skip)) | (refine sch_loadNXG M 0 rfl rfl (by decide) _ _ rfl rfl pk (fun w => ⟨by first | (simp [go_sem]; done) | (simp [go_sem]; rfl), by first | (simp [go_sem]; done) | (simp [go_sem]; rfl)⟩) ?_; (first | simp only [Act.put, List.setIfInBounds_toArray, List.set_cons_zero, List.set_cons_succ] | skip)) | (refine sch_cellXG rfl rfl _ _ rfl _ (M.far hc) (by assumption) (fun w => ⟨by first | (simp [go_sem]; done) | (simp [go_sem]; rfl), by first | (simp [go_sem]; done) | (simp [go_sem]; rfl)⟩) ?_; (first | simp only [Act.put, List.setIfInBounds_toArray, List.set_cons_zero, List.set_cons_succ] | skip)))); (first | ((refine wpSch_skip (fun _ => keepX.refl _) rfl rfl ?_); (first | simp only [Act.put, List.setIfInBounds_toArray, List.set_cons_zero, List.set_cons_succ] | skip)) | (first | (refine sch_load1XG M 3 rfl rfl (by decide) _ _ rfl _ rfl pk (fun w => ⟨by first | (simp [go_sem]; done) | (simp [go_sem]; rfl), by first | (simp [go_sem]; done) | (simp [go_sem]; rfl)⟩) _ (by rfl) ?_; (first | simp only [Act.put, List.setIfInBounds_toArray, List.set_cons_zero, List.set_cons_succ] | skip)) | (refine sch_loadNXG M 3 rfl rfl (by decide) _ _ rfl rfl pk (fun w => ⟨by first | (simp [go_sem]; done) | (simp [go_sem]; rfl), by first | (simp [go_sem]; done) | (simp [go_sem]; rfl)⟩) ?_; (first | simp only [Act.put, List.setIfInBounds_toArray, List.set_cons_zero, List.set_cons_succ] | skip)) | (refine sch_cellXG rfl rfl _ _ rfl _ (M.far hc) (by assumption) (fun w => ⟨by first | (simp [go_sem]; done) | (simp [go_sem]; rfl), by first | (simp [go_sem]; done) | (simp [go_sem]; rfl)⟩) ?_; (first | simp only [Act.put, List.setIfInBounds_toArray, List.set_cons_zero, List.set_cons_succ] | skip)))); (first | ((refine wpSch_skip (fun _ => keepX.refl _) rfl rfl ?_); (first | simp only [Act.put, List.setIfInBounds_toArray, List.set_cons_zero, List.set_cons_succ] | skip)) | (refine wpSch_e rfl rfl (fun K hK => ?_); go_simp; simp only [HM.out, HC.out, Result.andThen_ok]; rw [Oper.upon_enter]; refine (HH.out _ M.ext_of).mono ?_; rintro _ w1 ⟨rfl, hX⟩; refine hK _ _ (fun _ => keepX.ext M hX) ?_; replace M := M.ext hX; clear hX; clear hK K; (first | simp only [Act.put, List.setIfInBounds_toArray, List.set_cons_zero, List.set_cons_succ] | skip))); (first | ((refine wpSch_skip (fun _ => keepX.refl _) rfl rfl ?_); (first | simp only [Act.put, List.setIfInBounds_toArray, List.set_cons_zero, List.set_cons_succ] | skip)) | ((refine wpSch_q ?_ rfl rfl (fun w' hR => ?_) ?_); rotate_left; (focus (go_simp; first | rfl | rw [if_neg (by simp; omega)] | rw [if_neg (by omega)] | rw [if_pos (by omega)] | (rw [if_pos (by omega)]; simp; done))); (first | simp only [Act.put, List.setIfInBounds_toArray, List.set_cons_zero, List.set_cons_succ] | skip))); (iterate 2 ((refine wpSch_q ?_ rfl rfl (fun w' hR => ?_) ?_); rotate_left; (focus (go_simp; first | rfl | rw [if_neg (by simp; omega)] | rw [if_neg (by omega)] | rw [if_pos (by omega)] | (rw [if_pos (by omega)]; simp; done))); (first | simp only [Act.put, List.setIfInBounds_toArray, List.set_cons_zero, List.set_cons_succ] | skip))); refine wpSch_nil ?_)
  (try dsimp only); (repeat (first | (first | ((with_reducible refine wl_g ?_); first | go_big_want | go_skip | ((with_reducible refine wl_off (by kernel_rfl) ?_); (first | ((with_reducible refine fastK Tryz.prog rfl ?_); go_big_move) | (with_reducible refine fastN rfl ?_) | skip))) | ((with_reducible refine on_load ?_); (first | refine xl1 M ?_ | refine xlN M ?_); go_big_move) | ((with_reducible refine on_box ?_); refine xb M ?_; clear M; intro g w' M; go_big_move)) | go_values | go_skip | go_guarded | go_step | go_upon))
  exact ret_m1 rfl (Out.tmp rfl) rfl ⟨rfl, M.ext_of⟩
def holdsO (a : Abt) : Option Nd → Bool
  | none => true
  | some n => holdsOf (numB a) (idtB a) n
theorem filter_holds (a : Abt) (f : Option Nd) (hv : ∀ n, f = some n → Valid n) (g : Nat) (w : World) (hN : Nv w) (hb : Box w g 53 #[ndO f]) :
    Calls Tryz.prog 9 #[.pointer (some ⟨g, 0, none⟩), .agg a.cells.toArray] w fun e w' => e = .returned (.bool (holdsO a f)) ∧ Ext w w' := by
  cases f with
  | none => exact holds_none g a.cells w hb
  | some n =>
    have hb' : Box w g 53 #[.iface (tyV n) (payV n)] := by rw [← ndV_eq]; exact hb
    exact filter_calls n g _ _ _ _ _ _ _ _ _ _ _ _ _ _ _ _ _ _ w hb' (Lib.hid fun w' hX => holds_node a n (hv n rfl) w' (hN.ext hX))
end Go.Proofs.YtkblkdnihppmnaaGreatDoor
