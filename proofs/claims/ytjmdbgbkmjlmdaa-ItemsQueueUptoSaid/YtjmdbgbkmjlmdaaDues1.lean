/- One due more in the list that the program gathers (layer 18). -/
import Derived.Test.YtjmdbgbkmjlmdaaDues0
namespace Go.Proofs.Ytjmdbgbkmjlmdaa
set_option linter.unusedSimpArgs false
set_option linter.unusedVariables false
open Go.RowKit

theorem dueElem : ElemOf Try.prog 62 97 2 16 := elemOf_mk Try.underlying62 (z := .agg #[.int .i64 0, .int .i64 0]) (by kernel_rfl) rfl (by decide)
theorem due_one (d : DueV) : ∀ u ∈ d.cells, u.oneCell' = true := fun u hu => by
  simp [DueV.cells] at hu
  rcases hu with rfl | rfl <;> rfl
set_option maxRecDepth 100000 in
set_option maxHeartbeats 800000 in
theorem addDue_any (frm wait kind : Int) (h1 : T62 frm) (h2 : T62 wait) {p base c : Nat} {A : Option Addr} {l : List DueV} {w : World} (hp : Box w p 62 #[.slice A l.length c]) (ho : Own w base 97 DueV.cells 2 A c l) (hb : p < base) (hz : base ≤ w.heap.size) (hl : l.length ≤ 9) :
    Calls Try.prog 47 #[iv frm, iv wait, iv kind, .pointer (some ⟨p, 0, none⟩)] w fun e w' => e = .returned (.tuple #[]) ∧ ∃ A' c', Box w' p 62 #[.slice A' (l ++ due1 wait frm kind).length c'] ∧ Own w' base 97 DueV.cells 2 A' c' (l ++ due1 wait frm kind) ∧ Fr (fun x => x ≠ p ∧ x < base) w w' := by
  have HE := Lib.hid (ends_any frm wait h1 h2)
  unfold due1
  clear h1 h2
  by_cases hw : 0 < wait
  · rw [if_pos hw]
    simp only [if_pos hw, decide_eq_true hw] at HE
    generalize frm + wait = at_ at HE ⊢
    go_enter Try.func47, Try.ntmps47
    go_wp2_with (first | (go_at_call 48; refine (HE.out _).mono ?_; rintro _ w1 ⟨rfl, hX1⟩; have hp1 := hp.ext hX1; have ho1 := ho.fr (Fr.of_ext (S := fun _ => True) hX1) (fun _ _ _ => trivial); have hc := hp1.cell 0; have hfz := hp1.frozen; have hz1 : base ≤ w1.heap.size := Nat.le_trans hz hX1.size; simp only [List.getElem?_toArray, List.getElem?_cons_zero] at hc) | (at_builtin; refine wpList_push_at dueElem rfl _ _ rfl (⟨at_, kind⟩ : DueV) rfl ho1 rfl rfl rfl rfl (due_one _) (by omega) (by omega) hz1 ?_))
    rintro A2 c2 w2 ho2 hg2 -
    have hne : ownBlk A ≠ some p := fun e => by have := (ho1.blk p e).1; omega
    have hp2 : Box w2 p 62 #[.slice A l.length c] := (hp1.ext (Ext.al w1 _)).keep (hg2.block p (by simp; have := hp1.lt; omega) (fun e => hne e.symm))
    have hF2 : Fr (fun x => x ≠ p ∧ x < base) w w2 := ((Fr.of_ext hX1).alloc _).grown_step hg2 (fun g e h => fun hS => by have := (ho1.blk g e).1; omega)
    have hc2 := hp2.cell 0
    have hfz2 := hp2.frozen
    simp only [List.getElem?_toArray, List.getElem?_cons_zero] at hc2
    clear hp hp1 ho ho1 hc hfz hg2
    go_wp2
    go_end0
    refine ⟨rfl, A2, c2, ?_, ho2.fr (Fr.set (S := fun x => x ≠ p) (Fr.refl w2) _ (fun _ h => h rfl)) (fun b h1 _ => by omega), hF2.set _ (fun _ h => h.1 rfl)⟩
    rw [List.length_append]
    exact hp2.put 0 _
  · rw [if_neg hw]
    simp only [if_neg hw, decide_eq_false hw] at HE
    go_enter Try.func47, Try.ntmps47
    go_wp2_with (go_at_call 48; refine (HE.out _).mono ?_; rintro _ w1 ⟨rfl, hX1⟩)
    go_end0
    refine ⟨rfl, A, c, ?_, ?_, Fr.of_ext hX1⟩
    · rw [List.append_nil]; exact hp.ext hX1
    · rw [List.append_nil]; exact ho.fr (Fr.of_ext (S := fun _ => True) hX1) (fun _ _ _ => trivial)
end Go.Proofs.Ytjmdbgbkmjlmdaa
