/- The document's example of layer 18, at the head of its statements. -/
import Derived.Test.YtjmdbgbkmjlmdaaLaw0
namespace Go.Proofs.Ytjmdbgbkmjlmdaa
set_option linter.unusedSimpArgs false
set_option linter.unusedVariables false
open Go.RowKit Res

theorem Mem.oc {S : Nat → Prop} {w0 w : World} {l : List Res} (M : Mem S w0 l w) {α : Type} {e : TypeId} {f : α → List Value} (sz k j : Nat) {g c : Nat} {xs : List α} {F : Res → List Res} (p : Pick l (ow e f sz (some ⟨g, 0, none⟩) c xs) F) (hf : ∀ x, (f x).length = sz) {x : α} (hk : xs[k]? = some x) {v : Value} (hj : (f x)[j]? = some v) :
    w.cell? ⟨g, k * sz + j, none⟩ = some v := by
  obtain ⟨b, off, hA, -, -, hc⟩ := (M.own p).row.elem hf rfl hk
  injection hA with hA
  injection hA with e1 e2
  subst e1 e2
  have := hc j v hj
  rwa [Nat.zero_add] at this
def DueAt (w : World) (L : List DueV) (e : Ending) (w' : World) : Prop := ∃ g c, e = .returned (.slice (some ⟨g, 0, none⟩) L.length c) ∧ Own w' w.heap.size 97 DueV.cells 2 (some ⟨g, 0, none⟩) c L ∧ Ext w w'
theorem DuesPost.at_ {o : OptV} {a : ActV} {w w' : World} {e : Ending} {L : List DueV} (h : DuesPost o a w e w') (hL : duesOf o a = L) (hn : L ≠ []) : DueAt w L e w' := by
  obtain ⟨A, c, rfl, ho, hX⟩ := h
  rw [hL] at ho ⊢
  rcases own_cases ho with ⟨_, h0, _⟩ | ⟨g, rfl, _, _⟩
  · exact absurd h0 hn
  · exact ⟨g, c, rfl, ho, hX⟩
def exO : OptV := ⟨0, 5, 10, 0, 3, 2, 1, 1, 0, 2, 0⟩
def exA : ActV := ⟨7, 0, 1, 100, 1, 1, 100, 0, 0, 0⟩
def exB : ActV := ⟨7, 0, 1, 100, 1, 2, 101, 101, 0, 0⟩
def exC : ActV := ⟨7, 0, 1, 100, 1, 3, 106, 101, 0, 108⟩
def exD : ActV := ⟨7, 0, 1, 100, 2, 1, 108, 0, 0, 0⟩
theorem exO_may : exO.May := by constructor <;> simp [exO]
theorem exA_ok : exA.Ok := by constructor <;> simp [exA, I64, T62]
theorem exB_ok : exB.Ok := by constructor <;> simp [exB, I64, T62]
theorem exC_ok : exC.Ok := by constructor <;> simp [exC, I64, T62]
theorem exD_ok : exD.Ok := by constructor <;> simp [exD, I64, T62]
theorem ex_dues_a : duesOf exO exA = [⟨105, 1⟩] := by decide
theorem ex_dues_b : duesOf exO exB = [⟨104, 3⟩, ⟨111, 2⟩] := by decide
theorem ex_late_b : lateOf exO exB 3 106 = (exC, noEv, 0) := by rfl
theorem ex_late_c : lateOf exO exC 0 108 = (exD, noEv, 0) := by rfl
theorem ex_broken : brokenOf exO exD 1 9 109 = (noAct, noEv, 47) := by rfl
set_option maxRecDepth 100000 in
set_option maxHeartbeats 6000000 in
theorem shown_law (w : World) : Calls Try.prog 11 #[] w fun e w' => e = .returned (.bool true) ∧ Ext w w' := by
  have M := Mem.start w
  have HN : Hid (∀ w, Calls Try.prog 19 #[iv 7, iv 0, iv 1, iv 100] w fun r w' => r = .returned (.agg #[iv 7, iv 0, iv 1, iv 100, iv 1, iv 1, iv 100, iv 0, iv 0, iv 0]) ∧ Ext w w') := fun w => new_any 7 0 1 100 w
  have HH : Hid (∀ w, Calls Try.prog 24 #[.agg #[iv 7, iv 0, iv 1, iv 100, iv 1, iv 1, iv 100, iv 0, iv 0, iv 0], iv 101] w fun r w' => r = .returned (.tuple #[.agg #[iv 7, iv 0, iv 1, iv 100, iv 1, iv 2, iv 101, iv 101, iv 0, iv 0], iv 0]) ∧ Ext w w') := fun w => hold_any exA 101 w
  have H1 : Hid (∀ w, Calls Try.prog 22 #[.agg #[iv 0, iv 5, iv 10, iv 0, iv 3, iv 2, iv 1, iv 1, iv 0, iv 2, iv 0], .agg #[iv 7, iv 0, iv 1, iv 100, iv 1, iv 1, iv 100, iv 0, iv 0, iv 0]] w (DueAt w [⟨105, 1⟩])) := fun w => (dues_any exO exO_may exA exA_ok w).mono fun e w' h => h.at_ ex_dues_a (by simp)
  have H2 : Hid (∀ w, Calls Try.prog 22 #[.agg #[iv 0, iv 5, iv 10, iv 0, iv 3, iv 2, iv 1, iv 1, iv 0, iv 2, iv 0], .agg #[iv 7, iv 0, iv 1, iv 100, iv 1, iv 2, iv 101, iv 101, iv 0, iv 0]] w (DueAt w [⟨104, 3⟩, ⟨111, 2⟩])) := fun w => (dues_any exO exO_may exB exB_ok w).mono fun e w' h => h.at_ ex_dues_b (by simp)
  have H3 : Hid (∀ w, Calls Try.prog 17 #[.agg #[iv 0, iv 5, iv 10, iv 0, iv 3, iv 2, iv 1, iv 1, iv 0, iv 2, iv 0], .agg #[iv 7, iv 0, iv 1, iv 100, iv 1, iv 2, iv 101, iv 101, iv 0, iv 0], iv 3, iv 106] w fun r w' => r = .returned (.tuple #[.agg #[iv 7, iv 0, iv 1, iv 100, iv 1, iv 3, iv 106, iv 101, iv 0, iv 108], .agg #[iv 0, iv 0, iv 0, iv 0, iv 0, iv 0, iv 0, iv 0, iv 0], iv 0]) ∧ Ext w w') := fun w => (late_any exO exO_may exB exB_ok 3 106 (by simp [T62]) w).mono fun e w' h => by rw [ex_late_b] at h; exact h
  have H4 : Hid (∀ w, Calls Try.prog 17 #[.agg #[iv 0, iv 5, iv 10, iv 0, iv 3, iv 2, iv 1, iv 1, iv 0, iv 2, iv 0], .agg #[iv 7, iv 0, iv 1, iv 100, iv 1, iv 3, iv 106, iv 101, iv 0, iv 108], iv 0, iv 108] w fun r w' => r = .returned (.tuple #[.agg #[iv 7, iv 0, iv 1, iv 100, iv 2, iv 1, iv 108, iv 0, iv 0, iv 0], .agg #[iv 0, iv 0, iv 0, iv 0, iv 0, iv 0, iv 0, iv 0, iv 0], iv 0]) ∧ Ext w w') := fun w => (late_any exO exO_may exC exC_ok 0 108 (by simp [T62]) w).mono fun e w' h => by rw [ex_late_c] at h; exact h
  have H5 : Hid (∀ w, Calls Try.prog 15 #[.agg #[iv 0, iv 5, iv 10, iv 0, iv 3, iv 2, iv 1, iv 1, iv 0, iv 2, iv 0], .agg #[iv 7, iv 0, iv 1, iv 100, iv 2, iv 1, iv 108, iv 0, iv 0, iv 0], iv 1, iv 9, iv 109] w fun r w' => r = .returned (.tuple #[.agg #[iv 0, iv 0, iv 0, iv 0, iv 0, iv 0, iv 0, iv 0, iv 0, iv 0], .agg #[iv 0, iv 0, iv 0, iv 0, iv 0, iv 0, iv 0, iv 0, iv 0], iv 47]) ∧ Ext w w') := fun w => (broken_any exO exO_may exD exD_ok 1 9 109 (by simp [T62]) w).mono fun e w' h => by rw [ex_broken] at h; exact h
  go_enter Try.func11, Try.ntmps11
  (try dsimp only); (repeat (first | (first | (go_at_call 19; (with_reducible refine (HN.out _).mono ?_); rintro _ w1 ⟨rfl, hX⟩; replace M := M.ext hX; clear hX; dsimp only) | (go_at_call 24; (with_reducible refine (HH.out _).mono ?_); rintro _ w1 ⟨rfl, hX⟩; replace M := M.ext hX; clear hX; dsimp only) | (go_at_call 22; (first | (with_reducible refine (H1.out _).mono ?_) | (with_reducible refine (H2.out _).mono ?_)); rintro _ w1 ⟨g, c, rfl, ho, hX⟩; replace M := M.new_own ho (Nat.le_refl _) hX; clear ho hX; dsimp only) | (go_at_call 17; (first | (with_reducible refine (H3.out _).mono ?_) | (with_reducible refine (H4.out _).mono ?_)); rintro _ w1 ⟨rfl, hX⟩; replace M := M.ext hX; clear hX; dsimp only) | (go_at_call 15; (with_reducible refine (H5.out _).mono ?_); rintro _ w1 ⟨rfl, hX⟩; replace M := M.ext hX; clear hX; dsimp only) | ((with_reducible refine on_load ?_); refine wp_load1C _ _ rfl _ _ rfl _ (M.oc 2 0 0 (by (repeat (first | exact Pick.head | apply Pick.tail)); done) (fun _ => rfl) (by rfl) (by rfl)) (fun w => ⟨by first | (simp [go_sem]; done) | (simp [go_sem]; rfl), by first | (simp [go_sem]; done) | (simp [go_sem]; rfl)⟩) ?_; (try simp only [Act.put, List.setIfInBounds_toArray, List.set_cons_zero, List.set_cons_succ])) | ((with_reducible refine on_load ?_); refine wp_load1C _ _ rfl _ _ rfl _ (M.oc 2 1 0 (by (repeat (first | exact Pick.head | apply Pick.tail)); done) (fun _ => rfl) (by rfl) (by rfl)) (fun w => ⟨by first | (simp [go_sem]; done) | (simp [go_sem]; rfl), by first | (simp [go_sem]; done) | (simp [go_sem]; rfl)⟩) ?_; (try simp only [Act.put, List.setIfInBounds_toArray, List.set_cons_zero, List.set_cons_succ])) | fail | ((with_reducible refine on_load ?_); first | (refine wp_load1 M _ _ rfl _ _ rfl (by (repeat (first | exact Pick.head | apply Pick.tail)); done) (fun w => ⟨by first | (simp [go_sem]; done) | (simp [go_sem]; rfl), by first | (simp [go_sem]; done) | (simp [go_sem]; rfl)⟩) _ (by rfl) ?_; (try simp only [Act.put, List.setIfInBounds_toArray, List.set_cons_zero, List.set_cons_succ])) | (refine wp_loadN M _ _ rfl _ rfl (by (repeat (first | exact Pick.head | apply Pick.tail)); done) (fun w => ⟨by first | (simp [go_sem]; done) | (simp [go_sem]; rfl), by first | (simp [go_sem]; done) | (simp [go_sem]; rfl)⟩) ?_; (try simp only [Act.put, List.setIfInBounds_toArray, List.set_cons_zero, List.set_cons_succ]))) | ((with_reducible refine on_store ?_); first | (refine wp_store1 M _ _ _ rfl _ _ rfl (by (repeat (first | exact Pick.head | apply Pick.tail)); done) (fun w => ⟨by first | (simp [go_sem]; done) | (simp [go_sem]; rfl), by first | (simp [go_sem]; done) | (simp [go_sem]; rfl)⟩) _ (by first | exact CellsOf.agg _ | exact CellsOf.int _ _ | exact CellsOf.str _ | exact CellsOf.bool _ | exact CellsOf.slice _ _ _ | exact CellsOf.pointer _) (by rfl) (by (simp; done)) ?_; clear M; intro w' M; (try simp only [List.set_cons_zero, List.set_cons_succ] at M); (try simp only [Act.put, List.setIfInBounds_toArray, List.set_cons_zero, List.set_cons_succ])) | (refine wp_storeN M _ _ _ rfl _ rfl (by (repeat (first | exact Pick.head | apply Pick.tail)); done) (fun w => ⟨by first | (simp [go_sem]; done) | (simp [go_sem]; rfl), by first | (simp [go_sem]; done) | (simp [go_sem]; rfl)⟩) _ rfl (by rfl) (by rfl) ?_; clear M; intro w' M; (try simp only [] at M); (try simp only [Act.put, List.setIfInBounds_toArray, List.set_cons_zero, List.set_cons_succ]))) | ((with_reducible refine on_box ?_); refine wp_box M _ _ rfl _ (by first | exact CellsOf.agg _ | exact CellsOf.int _ _ | exact CellsOf.str _ | exact CellsOf.bool _ | exact CellsOf.slice _ _ _ | exact CellsOf.pointer _) ?_; clear M; intro g w' M; (try simp only [Act.put, List.setIfInBounds_toArray, List.set_cons_zero, List.set_cons_succ])) | ((with_reducible refine on_alloc ?_); refine wp_alloc M _ rfl _ (by simp [go_sem]; rfl) _ (by first | exact CellsOf.agg _ | exact CellsOf.int _ _ | exact CellsOf.str _ | exact CellsOf.bool _ | exact CellsOf.slice _ _ _ | exact CellsOf.pointer _) ?_; clear M; intro g w' M; (try simp only [Act.put, List.setIfInBounds_toArray, List.set_cons_zero, List.set_cons_succ]))) | go_values | go_skip | go_guarded | go_step | go_upon))
  exact ret_m1 rfl (Out.tmp rfl) rfl ⟨rfl, M.ext_of⟩
end Go.Proofs.Ytjmdbgbkmjlmdaa
