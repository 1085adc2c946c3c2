/- Parts of this work, one behind the other: FiltQ. -/
import Derived.Test.YtkblkdnihppmnaaGreatDoorPku12
import Derived.Test.YtkblkdnihppmnaaGreatDoorPku0
/- Filters (layer 21): the program's parser (walk, first part): place, is, fail. -/
namespace Go.Proofs.YtkblkdnihppmnaaGreatDoor
set_option linter.unusedSimpArgs false
set_option linter.unusedVariables false
open Go.RowKit Res Filt

theorem idx_at {x : List UInt8} : ∀ (fs : List (List UInt8)) (k : Nat), fs[k]? = some x → x ∉ fs.take k → fs.idxOf x = k
  | [], k, h, _ => by simp at h
  | f :: fs, 0, h, _ => by cases h; exact List.idxOf_cons_self
  | f :: fs, k + 1, h, hn => by
    simp only [List.take_succ_cons, List.mem_cons, not_or] at hn
    have hf : (f == x) = false := by simpa using fun e => hn.1 e.symm
    rw [List.idxOf_cons, hf, cond_false, idx_at fs k (by simpa using h) hn.2]
def placeOf (fs : List (List UInt8)) (x : List UInt8) : Int := if fs.idxOf x < fs.length then fs.idxOf x else -1
theorem fields_any (l : List UInt8) (fs : List (List UInt8)) (hl : l.length ≤ 1048576) (hasc : ∀ (j : Nat) b, l[j]? = some b → b.toNat < 128) (hf : Lib.fields l = fs) (w : World) (hN : Nv w) :
    Calls Tryz.prog 78 #[str l] w fun e w' => ∃ g, e = .returned (.slice (some ⟨g, 0, none⟩) fs.length fs.length) ∧ Ext w w' ∧ w.heap.size ≤ g ∧ Box w' g 9 (fs.map str).toArray := by
  refine (Tryz.strings_Fields ⟨l.toArray⟩ w (by show l.toArray.size < _; simp; omega) (by simpa using hasc) hN.sp).mono fun e w' ⟨h1, h2⟩ => ?_
  have e1 : Lib.fields (⟨l.toArray⟩ : ByteArray).data.toList = fs := by rw [← hf]
  rw [e1] at h1 h2
  refine ⟨_, h1, ?_, Nat.le_refl _, ?_⟩
  · rw [h2]; exact Ext.al _ _
  · rw [h2]; exact Box.new _ _ _
set_option maxRecDepth 100000 in
set_option maxHeartbeats 800000 in
theorem place_any (l : List UInt8) (fs : List (List UInt8)) (x : List UInt8) (hl : l.length ≤ 1048576) (hasc : ∀ (j : Nat) b, l[j]? = some b → b.toNat < 128) (hf : Lib.fields l = fs) (hn : fs.length ≤ 1000) (w : World) (hN : Nv w) :
    Calls Tryz.prog 72 #[str l, str x] w fun e w' => e = .returned (fi (placeOf fs x)) ∧ Ext w w' := by
  have M := Mem.start w
  have HF := Lib.hid (fields_any l fs hl hasc hf w hN)
  obtain ⟨res, hres⟩ : ∃ res, placeOf fs x = res := ⟨_, rfl⟩
  rw [hres]
  have HR := Lib.hid hres
  clear hres hasc hf hl hN
  go_enter Tryz.func72, Tryz.ntmps72
  (try dsimp only); (repeat (first | (first | (go_at_call 78; (with_reducible refine (HF.out).mono ?_); rintro _ w1 ⟨g, rfl, hX, hgz, hB⟩; replace M := M.ext hX; clear hX; dsimp only) | ((with_reducible refine on_load ?_); (first | refine xl1 M ?_ | refine xlN M ?_); go_big_move) | ((with_reducible refine on_store ?_); (first | refine xs1 M ?_ | refine xsN M ?_); clear M; intro w' M; (try simp only [List.set_cons_zero, List.set_cons_succ] at M)) | ((with_reducible refine on_box ?_); refine xb M ?_; clear M; intro g w' M; go_big_move) | ((with_reducible refine on_alloc ?_); refine xa M ?_; clear M; intro g w' M; go_big_move)) | go_values | go_skip | go_guarded | go_step | go_upon))
  obtain ⟨gB, hgB⟩ : ∃ x, x = g := ⟨_, rfl⟩
  subst hgB
  have HB := Lib.hid hB
  clear hB
  go_loop [10] (fun i => ∃ k : Nat, k ≤ fs.length ∧ i = fi (k : Int) ∧ Hid (x ∉ fs.take k)) (fun i => fs.length - (intOf i).toNat)
  case atStart => exact ⟨0, by omega, rfl, Lib.hid (by simp)⟩
  case round =>
    obtain ⟨k, hk, rfl, hh⟩ := hrel
    by_cases hlt : k < fs.length
    · have q1 : decide ((k : Int) < (fs.length : Int)) = true := by simp; omega
      obtain ⟨y, hy⟩ : ∃ y, fs[k]? = some y := ⟨_, List.getElem?_eq_getElem hlt⟩
      have hc : w1.cell? ⟨gB, k, none⟩ = some (str y) := by rw [HB.out.cell]; simp [hy]
      have HC := Lib.hid hc
      have hwk : IntKind.i64.wrap ((k : Int) + 1) = (k : Int) + 1 := IntWalk.i64_in _ (by omega)
      clear hc
      by_cases hxy : y = x
      · have q2 : (y == x) = true := by simpa using hxy
        have HN : Hid (res = (k : Int)) := Lib.hid (by
          rw [← HR.out]
          unfold placeOf
          rw [idx_at fs k (by rw [hy, hxy]) hh.out, if_pos hlt])
        clear hxy hy hh
        (try dsimp only); (repeat (first | (first | ((with_reducible refine on_load ?_); refine xlC HC.out ?_; go_big_move) | ((with_reducible refine wl_g ?_); first | go_big_want | go_skip | ((with_reducible refine wl_off (by kernel_rfl) ?_); (first | ((with_reducible refine fastK Tryz.prog rfl ?_); go_big_move) | (with_reducible refine fastN rfl ?_) | skip))) | ((with_reducible refine on_load ?_); (first | refine xl1 M ?_ | refine xlN M ?_); go_big_move) | ((with_reducible refine on_store ?_); (first | refine xs1 M ?_ | refine xsN M ?_); clear M; intro w' M; (try simp only [List.set_cons_zero, List.set_cons_succ] at M)) | ((with_reducible refine on_box ?_); refine xb M ?_; clear M; intro g w' M; go_big_move) | ((with_reducible refine on_alloc ?_); refine xa M ?_; clear M; intro g w' M; go_big_move)) | go_values | go_skip | go_guarded | go_step | go_upon))
        rw [HN.out]
        exact ret_m1 rfl (Out.tmp rfl) rfl ⟨rfl, M.ext_of⟩
      · have q2 : (y == x) = false := by simpa using hxy
        have HN : Hid (x ∉ fs.take (k + 1)) := Lib.hid (by
          rw [List.take_add_one, hy]
          simp only [Option.toList_some, List.mem_append, List.mem_singleton, not_or]
          exact ⟨hh.out, fun e => hxy e.symm⟩)
        clear hxy hy hh
        (try dsimp only); (repeat (first | (first | ((with_reducible refine on_load ?_); refine xlC HC.out ?_; go_big_move) | ((with_reducible refine wl_g ?_); first | go_big_want | go_skip | ((with_reducible refine wl_off (by kernel_rfl) ?_); (first | ((with_reducible refine fastK Tryz.prog rfl ?_); go_big_move) | (with_reducible refine fastN rfl ?_) | skip))) | ((with_reducible refine on_load ?_); (first | refine xl1 M ?_ | refine xlN M ?_); go_big_move) | ((with_reducible refine on_store ?_); (first | refine xs1 M ?_ | refine xsN M ?_); clear M; intro w' M; (try simp only [List.set_cons_zero, List.set_cons_succ] at M)) | ((with_reducible refine on_box ?_); refine xb M ?_; clear M; intro g w' M; go_big_move) | ((with_reducible refine on_alloc ?_); refine xa M ?_; clear M; intro g w' M; go_big_move)) | go_values | go_skip | go_guarded | go_step | go_upon))
        exact ⟨⟨k + 1, by omega, by go_num, HN⟩, by simp [intOf]; omega⟩
    · have q1 : decide ((k : Int) < (fs.length : Int)) = false := by simp; omega
      have HN : Hid (res = -1) := Lib.hid (by
        have e : fs.take k = fs := List.take_of_length_le (by omega)
        have h := hh.out
        rw [e] at h
        rw [← HR.out]
        unfold placeOf
        rw [if_neg (by rw [List.idxOf_eq_length h]; omega)])
      clear hh
      (try dsimp only); (repeat (first | (first | ((with_reducible refine wl_g ?_); first | go_big_want | go_skip | ((with_reducible refine wl_off (by kernel_rfl) ?_); (first | ((with_reducible refine fastK Tryz.prog rfl ?_); go_big_move) | (with_reducible refine fastN rfl ?_) | skip))) | ((with_reducible refine on_load ?_); (first | refine xl1 M ?_ | refine xlN M ?_); go_big_move) | ((with_reducible refine on_store ?_); (first | refine xs1 M ?_ | refine xsN M ?_); clear M; intro w' M; (try simp only [List.set_cons_zero, List.set_cons_succ] at M)) | ((with_reducible refine on_box ?_); refine xb M ?_; clear M; intro g w' M; go_big_move) | ((with_reducible refine on_alloc ?_); refine xa M ?_; clear M; intro g w' M; go_big_move)) | go_values | go_skip | go_guarded | go_step | go_upon))
      rw [HN.out]
      exact ret_m1 rfl (Out.tmp rfl) rfl ⟨rfl, M.ext_of⟩
set_option maxRecDepth 100000 in
set_option maxHeartbeats 800000 in
theorem is_any (g : Nat) (k : TK) (ts x : List UInt8) (w : World) (h2 : w.cell? ⟨g, 2, none⟩ = some (fi (kindN k))) (h4 : w.cell? ⟨g, 4, none⟩ = some (str ts)) :
    Calls Tryz.prog 38 #[.pointer (some ⟨g, 0, none⟩), str x] w fun e w' => e = .returned (.bool (decide ((k = .word ∨ k = .mark) ∧ ts = x))) ∧ w = w' := by
  have M := Mem.start w
  have H2 := Lib.hid h2
  have H4 := Lib.hid h4
  clear h2 h4
  have e : decide (ts = x) = (ts == x) := by rw [Bool.eq_iff_iff]; simp
  cases k
  all_goals
    simp only [reduceCtorEq, false_or, or_false, true_and, false_and, decide_false, or_self, true_or, or_true, e]
    dsimp only [kindN] at H2
    go_enter Tryz.func38, Tryz.ntmps38
    (try dsimp only); (repeat (first | (first | ((with_reducible refine on_load ?_); refine xlC H2.out ?_; go_big_move) | ((with_reducible refine on_load ?_); refine xlC H4.out ?_; go_big_move) | ((with_reducible refine wl_g ?_); first | go_big_want | go_skip | ((with_reducible refine wl_off (by kernel_rfl) ?_); (first | ((with_reducible refine fastK Tryz.prog rfl ?_); go_big_move) | (with_reducible refine fastN rfl ?_) | skip))) | ((with_reducible refine on_load ?_); (first | refine xl1 M ?_ | refine xlN M ?_); go_big_move) | ((with_reducible refine on_store ?_); (first | refine xs1 M ?_ | refine xsN M ?_); clear M; intro w' M; (try simp only [List.set_cons_zero, List.set_cons_succ] at M)) | ((with_reducible refine on_box ?_); refine xb M ?_; clear M; intro g w' M; go_big_move) | ((with_reducible refine on_alloc ?_); refine xa M ?_; clear M; intro g w' M; go_big_move)) | go_values | go_skip | go_guarded | go_step | go_upon))
    exact ret_m1 rfl (Out.tmp rfl) rfl ⟨rfl, rfl⟩
set_option maxRecDepth 100000 in
set_option maxHeartbeats 800000 in
theorem fail_any (g : Nat) (i : Int) (w : World) (h3 : w.cell? ⟨g, 3, none⟩ = some (fi i)) :
    Calls Tryz.prog 18 #[.pointer (some ⟨g, 0, none⟩)] w fun e w' => e = .panicked (faultAt i) ∧ w = w' := by
  have M := Mem.start w
  have H3 := Lib.hid h3
  clear h3
  go_enter Tryz.func18, Tryz.ntmps18
  (try dsimp only); (repeat (first | (first | ((with_reducible refine on_load ?_); refine xlC H3.out ?_; go_big_move) | ((with_reducible refine wl_g ?_); first | go_big_want | go_skip | ((with_reducible refine wl_off (by kernel_rfl) ?_); (first | ((with_reducible refine fastK Tryz.prog rfl ?_); go_big_move) | (with_reducible refine fastN rfl ?_) | skip))) | ((with_reducible refine on_load ?_); (first | refine xl1 M ?_ | refine xlN M ?_); go_big_move) | ((with_reducible refine on_store ?_); (first | refine xs1 M ?_ | refine xsN M ?_); clear M; intro w' M; (try simp only [List.set_cons_zero, List.set_cons_succ] at M)) | ((with_reducible refine on_box ?_); refine xb M ?_; clear M; intro g w' M; go_big_move) | ((with_reducible refine on_alloc ?_); refine xa M ?_; clear M; intro g w' M; go_big_move)) | go_values | go_skip | go_guarded | go_step | go_upon))
  exact ⟨rfl, rfl, rfl⟩
end Go.Proofs.YtkblkdnihppmnaaGreatDoor
