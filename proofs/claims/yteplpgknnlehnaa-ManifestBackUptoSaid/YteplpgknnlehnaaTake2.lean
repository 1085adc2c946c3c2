/- Texts read from bytes (layer 1): what the program and the reference both compute. -/
import Derived.Test.YteplpgknnlehnaaTake
namespace Go.Proofs.Yteplpgknnlehnaa
set_option linter.unusedSimpArgs false
set_option linter.unusedVariables false
open Go.RowKit

theorem ba_extract (l : List UInt8) (a b : Nat) : (⟨l.toArray⟩ : ByteArray).extract a b = ⟨((l.drop a).take (b - a)).toArray⟩ := by
  apply ByteArray.ext
  simp
theorem ba_extract_len (l : List UInt8) (a n : Nat) : (⟨l.toArray⟩ : ByteArray).extract a (a + n) = ⟨((l.drop a).take n).toArray⟩ := by
  rw [ba_extract, Nat.add_sub_cancel_left]
theorem ba_extract_end (l : List UInt8) (a : Nat) : (⟨l.toArray⟩ : ByteArray).extract a l.length = ⟨(l.drop a).toArray⟩ := by
  rw [ba_extract, List.take_of_length_le (by simp)]
attribute [go_sem] ba_extract_end ba_extract_len

def takeText (most : Nat) (l : List UInt8) : List UInt8 × Nat × Nat :=
  if (takeUint l).2.2 ≠ 0 then ([], 0, (takeUint l).2.2) else if most < (takeUint l).1 then ([], 0, 3) else if l.length - (takeUint l).2.1 < (takeUint l).1 then ([], 0, 2)
  else ((l.drop (takeUint l).2.1).take (takeUint l).1, (takeUint l).2.1 + (takeUint l).1, 0)

theorem takeGo_err : ∀ (l : List UInt8) (i n : Nat), (takeGo l i n).2.2 ≤ 3
  | [], _, _ => by simp [takeGo]
  | b :: l, i, n => by
    unfold takeGo
    split
    · simp
    · split
      · simp
      · exact takeGo_err l _ _
theorem takeUint_err (l : List UInt8) : (takeUint l).2.2 ≤ 3 := takeGo_err l 0 0

set_option maxRecDepth 100000 in
set_option maxHeartbeats 800000 in
theorem clone_any (l : List UInt8) (hl : l.length ≤ 1099511627776) (w : World) : Calls Try.prog 85 #[str l] w fun e w' => e = .returned (str l) ∧ Ext w w' := by
  have h := Try.stringslite_Clone ⟨l.toArray⟩ w (by show l.toArray.size ≤ _; simp; omega)
  have H := Lib.hid h
  clear h
  go_enter Try.func85, Try.ntmps85
  go_wp2_with (refine H.out.mono ?_; rintro e w1 ⟨rfl, hb⟩)
  go_ret
  exact ⟨rfl, hb⟩

set_option maxRecDepth 100000 in
set_option maxHeartbeats 800000 in
theorem takeText_any (most : Nat) (hm : most ≤ 1099511627776) (l : List UInt8) (hl : l.length ≤ 1099511627776) (w : World) :
    Calls Try.prog 60 #[str l, .int .i64 most] w fun e w' => e = .returned (.tuple #[str (takeText most l).1, .int .i64 (takeText most l).2.1, .int .i64 (takeText most l).2.2]) ∧ Ext w w' := by
  have H := Lib.hid (takeUint_any l hl w)
  have h1 := takeUint_lt l
  have h2 := takeUint_len l
  have h3 := takeUint_err l
  have HT : Hid (∀ n k e : Nat, takeUint l = (n, k, e) → takeText most l = if e ≠ 0 then ([], 0, e) else if most < n then ([], 0, 3) else if l.length - k < n then ([], 0, 2) else ((l.drop k).take n, k + n, 0)) := by
    rintro n k e h
    rw [takeText, h]
  obtain ⟨n, k, e, hu⟩ : ∃ n k e, takeUint l = (n, k, e) := ⟨_, _, _, rfl⟩
  have HT' := Lib.hid (HT.out n k e hu)
  rw [hu] at H h1 h2 h3
  dsimp only at H h1 h2 h3
  unfold M64 at h1
  clear HT hu
  go_enter Try.func60, Try.ntmps60
  go_wp2_with (first
    | (go_at_call 59; refine H.out.mono ?_; rintro e w1 ⟨rfl, rfl⟩)
    | (go_at_call 85; refine (clone_any _ (by simp; omega) _).mono ?_; rintro e w2 ⟨rfl, hb⟩))
  all_goals (try simp only [beq_iff_eq, beq_eq_false_iff_ne, bne_iff_ne, bne_eq_false_iff_eq, ne_eq] at *)
  all_goals go_ret3
  · exact ⟨by rw [HT'.out, if_pos (by omega)]; rfl, by (repeat (first | exact Below.refl _ _ | refine Ext.trans' ?_ (Ext.al _ _) | refine Ext.trans' ?_ (Ext.dr _) | refine Ext.trans' ?_ (by assumption)))⟩
  · exact ⟨by rw [HT'.out, if_neg (by omega), if_pos (by omega)]; rfl, by (repeat (first | exact Below.refl _ _ | refine Ext.trans' ?_ (Ext.al _ _) | refine Ext.trans' ?_ (Ext.dr _) | refine Ext.trans' ?_ (by assumption)))⟩
  · exact ⟨by rw [HT'.out, if_neg (by omega), if_neg (by omega), if_pos (by omega)]; rfl, by (repeat (first | exact Below.refl _ _ | refine Ext.trans' ?_ (Ext.al _ _) | refine Ext.trans' ?_ (Ext.dr _) | refine Ext.trans' ?_ (by assumption)))⟩
  · exact ⟨by rw [HT'.out, if_neg (by omega), if_neg (by omega), if_neg (by omega)]; first | rfl | (simp [ba_extract_len]; done) | simp, by (repeat (first | exact Below.refl _ _ | refine Ext.trans' ?_ (Ext.al _ _) | refine Ext.trans' ?_ (Ext.dr _) | refine Ext.trans' ?_ (by assumption)))⟩
set_option maxRecDepth 100000 in
set_option maxHeartbeats 800000 in
theorem takeText_ref (most : Nat) (hm : most ≤ 1099511627776) (l : List UInt8) (hl : l.length ≤ 1099511627776) (w : World) :
    Calls Try.prog 84 #[str l, .int .i64 most] w fun e w' => e = .returned (.tuple #[str (takeText most l).1, .int .i64 (takeText most l).2.1, .int .i64 (takeText most l).2.2]) ∧ Ext w w' := by
  have H := Lib.hid (takeUint_ref l hl w)
  have h1 := takeUint_lt l
  have h2 := takeUint_len l
  have h3 := takeUint_err l
  have HT : Hid (∀ n k e : Nat, takeUint l = (n, k, e) → takeText most l = if e ≠ 0 then ([], 0, e) else if most < n then ([], 0, 3) else if l.length - k < n then ([], 0, 2) else ((l.drop k).take n, k + n, 0)) := by
    rintro n k e h
    rw [takeText, h]
  obtain ⟨n, k, e, hu⟩ : ∃ n k e, takeUint l = (n, k, e) := ⟨_, _, _, rfl⟩
  have HT' := Lib.hid (HT.out n k e hu)
  rw [hu] at H h1 h2 h3
  dsimp only at H h1 h2 h3
  unfold M64 at h1
  clear HT hu
  go_enter Try.func84, Try.ntmps84
  go_wp2_with (go_at_call 83; refine H.out.mono ?_; rintro e w1 ⟨rfl, rfl⟩)
  all_goals (try simp only [beq_iff_eq, beq_eq_false_iff_ne, bne_iff_ne, bne_eq_false_iff_eq, ne_eq] at *)
  all_goals go_ret3
  · exact ⟨by rw [HT'.out, if_pos (by omega)]; rfl, by (repeat (first | exact Below.refl _ _ | refine Ext.trans' ?_ (Ext.al _ _) | refine Ext.trans' ?_ (Ext.dr _) | refine Ext.trans' ?_ (by assumption)))⟩
  · exact ⟨by rw [HT'.out, if_neg (by omega), if_pos (by omega)]; rfl, by (repeat (first | exact Below.refl _ _ | refine Ext.trans' ?_ (Ext.al _ _) | refine Ext.trans' ?_ (Ext.dr _) | refine Ext.trans' ?_ (by assumption)))⟩
  · exact ⟨by rw [HT'.out, if_neg (by omega), if_neg (by omega), if_pos (by omega)]; rfl, by (repeat (first | exact Below.refl _ _ | refine Ext.trans' ?_ (Ext.al _ _) | refine Ext.trans' ?_ (Ext.dr _) | refine Ext.trans' ?_ (by assumption)))⟩
  · exact ⟨by rw [HT'.out, if_neg (by omega), if_neg (by omega), if_neg (by omega)]; first | rfl | (simp [ba_extract_len]; done) | simp, by (repeat (first | exact Below.refl _ _ | refine Ext.trans' ?_ (Ext.al _ _) | refine Ext.trans' ?_ (Ext.dr _) | refine Ext.trans' ?_ (by assumption)))⟩
end Go.Proofs.Yteplpgknnlehnaa
