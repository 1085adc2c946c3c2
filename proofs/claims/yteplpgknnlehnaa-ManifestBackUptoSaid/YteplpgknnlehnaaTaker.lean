/- What takes numbers and texts one behind the other: the program's taker (layer 10), the reference's Reader (layer 4). -/
import Derived.Test.YteplpgknnlehnaaTake2
import Derived.Test.YteplpgknnlehnaaBase2
import Derived.Test.YteplpgknnlehnaaFr
namespace Go.Proofs.Yteplpgknnlehnaa
set_option linter.unusedSimpArgs false
set_option linter.unusedVariables false
open Go.RowKit

abbrev Rd := List UInt8 × Bool
def readUint (mx : Nat) (st : Rd) : Nat × Rd := if (st.2 || decide ((takeUint st.1).2.2 ≠ 0) || decide (mx < (takeUint st.1).1)) = true then (0, (st.1, true)) else ((takeUint st.1).1, (st.1.drop (takeUint st.1).2.1, false))
def readText (mx : Nat) (st : Rd) : List UInt8 × Rd := if (st.2 || decide ((takeText mx st.1).2.2 ≠ 0)) = true then ([], (st.1, true)) else ((takeText mx st.1).1, (st.1.drop (takeText mx st.1).2.1, false))
def readMany (st : Rd) : Nat × Rd := let r := readUint 4611686018427387904 st; if (r.2.2 || decide (1000 < r.1)) = true then (0, (r.2.1, true)) else (r.1, (r.2.1, false))

theorem readUint_le {mx : Nat} {st : Rd} : (readUint mx st).1 ≤ mx := by
  unfold readUint
  split
  · simp
  · rename_i h
    simp at h
    omega
theorem readUint_len {mx : Nat} {st : Rd} : (readUint mx st).2.1.length ≤ st.1.length := by
  unfold readUint
  split <;> simp
theorem readText_len {mx : Nat} {st : Rd} : (readText mx st).2.1.length ≤ st.1.length := by
  unfold readText
  split <;> simp
theorem takeText_most {mx : Nat} {l : List UInt8} : (takeText mx l).1.length ≤ mx := by
  unfold takeText
  split
  · simp
  · split
    · simp
    · split
      · simp
      · simp; omega
theorem readText_most {mx : Nat} {st : Rd} : (readText mx st).1.length ≤ mx := by
  unfold readText
  split
  · simp
  · exact takeText_most

theorem box_bad {w : World} {g : Nat} {t : TypeId} {s : Value} {b X Y : Bool} (hb : Box w g t #[s, .bool b]) (h : X = Y) : Box (w.setCell ⟨g, 1, none⟩ (.bool X)) g t #[s, .bool Y] := by
  subst h; have := hb.put 1 (.bool X); simpa using this
theorem box_rest {w : World} {g : Nat} {t : TypeId} {s : Value} {b Y : Bool} (s' : Value) (hb : Box w g t #[s, .bool b]) (h : b = Y) : Box (w.setCell ⟨g, 0, none⟩ s') g t #[s', .bool Y] := by
  subst h; have := hb.put 0 s'; simpa using this
theorem Hid.of {p : Prop} (h : Hid p) : p := h

set_option maxRecDepth 100000 in
set_option maxHeartbeats 800000 in
theorem takerUint_any  (g : Nat) (l : List UInt8) (bad : Bool) (hl : l.length ≤ 1099511627776) (w : World) (hb : Box w g 89 #[str l, .bool bad]) :
    Calls Try.prog 54 #[.pointer (some ⟨g, 0, none⟩)] w fun e w' => e = .returned (.int .u64 (readUint 4611686018427387904 (l, bad)).1) ∧ Box w' g 89 #[str (readUint 4611686018427387904 (l, bad)).2.1, .bool (readUint 4611686018427387904 (l, bad)).2.2] ∧ Chg g w w' := by
  have H := Lib.hid (fun w => takeUint_any l hl w)
  have h1 := takeUint_lt l
  have h2 := takeUint_len l
  have h3 := takeUint_err l
  have HT : Hid (∀ n k e : Nat, takeUint l = (n, k, e) → readUint 4611686018427387904 (l, bad) = if (bad || decide (e ≠ 0) || decide (4611686018427387904 < n)) = true then (0, (l, true)) else (n, (l.drop k, false))) := by
    rintro n k e h
    rw [readUint, h]
  obtain ⟨n, k, e, hu⟩ : ∃ n k e, takeUint l = (n, k, e) := ⟨_, _, _, rfl⟩
  have HT' := Lib.hid (HT.out n k e hu)
  rw [hu] at H h1 h2 h3
  dsimp only at H h1 h2 h3
  unfold M64 at h1
  clear HT hu
  have c0 := hb.cell 0
  have c1 := hb.cell 1
  have f := hb.frozen
  simp at c0 c1
  have HB := Lib.hid hb
  clear hb
  go_enter Try.func54, Try.ntmps54
  go_wp2_with (go_at_call 59; refine (H.out _).mono ?_; rintro e w1 ⟨rfl, rfl⟩)
  all_goals (try simp only [beq_iff_eq, beq_eq_false_iff_ne, bne_iff_ne, bne_eq_false_iff_eq, ne_eq] at *)
  all_goals go_ret
  all_goals first
    | (have hc : (bad || decide (¬ e = 0) || decide (4611686018427387904 < n)) = true := by (simp [*]; try omega)
       rw [HT'.out, if_pos hc]
       exact ⟨rfl, box_bad HB.out (by first | rfl | (simp [*]; done) | (simp [*]; omega)), Chg.set (Chg.refl _ _) _⟩)
    | (have hc : ¬ (bad || decide (¬ e = 0) || decide (4611686018427387904 < n)) = true := by (simp [*]; try omega)
       rw [HT'.out, if_neg hc]
       exact ⟨rfl, box_rest _ (box_bad HB.out (by first | rfl | (simp [*]; done) | (simp [*]; omega))) rfl, Chg.set (Chg.set (Chg.refl _ _) _) _⟩)
set_option maxRecDepth 100000 in
set_option maxHeartbeats 800000 in
theorem readerUint_any (mx : Nat) (hmx : mx ≤ 4611686018427387904) (g : Nat) (l : List UInt8) (bad : Bool) (hl : l.length ≤ 1099511627776) (w : World) (hb : Box w g 93 #[str l, .bool bad]) :
    Calls Try.prog 57 #[.pointer (some ⟨g, 0, none⟩), .int .u64 mx] w fun e w' => e = .returned (.int .u64 (readUint mx (l, bad)).1) ∧ Box w' g 93 #[str (readUint mx (l, bad)).2.1, .bool (readUint mx (l, bad)).2.2] ∧ Chg g w w' := by
  have H := Lib.hid (fun w => takeUint_ref l hl w)
  have h1 := takeUint_lt l
  have h2 := takeUint_len l
  have h3 := takeUint_err l
  have HT : Hid (∀ n k e : Nat, takeUint l = (n, k, e) → readUint mx (l, bad) = if (bad || decide (e ≠ 0) || decide (mx < n)) = true then (0, (l, true)) else (n, (l.drop k, false))) := by
    rintro n k e h
    rw [readUint, h]
  obtain ⟨n, k, e, hu⟩ : ∃ n k e, takeUint l = (n, k, e) := ⟨_, _, _, rfl⟩
  have HT' := Lib.hid (HT.out n k e hu)
  rw [hu] at H h1 h2 h3
  dsimp only at H h1 h2 h3
  unfold M64 at h1
  clear HT hu
  have c0 := hb.cell 0
  have c1 := hb.cell 1
  have f := hb.frozen
  simp at c0 c1
  have HB := Lib.hid hb
  clear hb
  go_enter Try.func57, Try.ntmps57
  go_wp2_with (go_at_call 83; refine (H.out _).mono ?_; rintro e w1 ⟨rfl, rfl⟩)
  all_goals (try simp only [beq_iff_eq, beq_eq_false_iff_ne, bne_iff_ne, bne_eq_false_iff_eq, ne_eq] at *)
  all_goals go_ret
  all_goals first
    | (have hc : (bad || decide (¬ e = 0) || decide (mx < n)) = true := by (simp [*]; try omega)
       rw [HT'.out, if_pos hc]
       exact ⟨rfl, box_bad HB.out (by first | rfl | (simp [*]; done) | (simp [*]; omega)), Chg.set (Chg.refl _ _) _⟩)
    | (have hc : ¬ (bad || decide (¬ e = 0) || decide (mx < n)) = true := by (simp [*]; try omega)
       rw [HT'.out, if_neg hc]
       exact ⟨rfl, box_rest _ HB.out (by first | rfl | assumption | (simp [*]; done) | (simp [*]; omega)), Chg.set (Chg.refl _ _) _⟩)

theorem takeText_len (mx : Nat) (l : List UInt8) : (takeText mx l).2.1 ≤ l.length := by
  have := takeUint_len l
  unfold takeText
  split
  · simp
  · split
    · simp
    · split
      · simp
      · simp; omega
theorem takeText_err (mx : Nat) (l : List UInt8) : (takeText mx l).2.2 ≤ 3 := by
  have := takeUint_err l
  unfold takeText
  split
  · simp; omega
  · split
    · simp
    · split <;> simp

set_option maxRecDepth 100000 in
set_option maxHeartbeats 800000 in
theorem takerText_any  (g : Nat) (l : List UInt8) (bad : Bool) (hl : l.length ≤ 1099511627776) (w : World) (hb : Box w g 89 #[str l, .bool bad]) :
    Calls Try.prog 56 #[.pointer (some ⟨g, 0, none⟩)] w fun e w' => e = .returned (str (readText 96 (l, bad)).1) ∧ Box w' g 89 #[str (readText 96 (l, bad)).2.1, .bool (readText 96 (l, bad)).2.2] ∧ Chg g w w' := by
  have H := Lib.hid (fun w => takeText_any 96 (by omega) l hl w)
  have h2 := takeText_len 96 l
  have h3 := takeText_err 96 l
  have HT : Hid (∀ n k e, takeText 96 l = (n, k, e) → readText 96 (l, bad) = if (bad || decide (e ≠ 0)) = true then ([], (l, true)) else (n, (l.drop k, false))) := by
    rintro n k e h
    rw [readText, h]
  obtain ⟨n, k, e, hu⟩ : ∃ n k e, takeText 96 l = (n, k, e) := ⟨_, _, _, rfl⟩
  have HT' := Lib.hid (HT.out n k e hu)
  rw [hu] at H h2 h3
  dsimp only at H h2 h3
  clear HT hu
  have HB0 := Lib.hid hb
  have c0 := hb.cell 0
  have c1 := hb.cell 1
  simp at c0 c1
  go_enter Try.func56, Try.ntmps56
  go_wp2_with fail
  refine (H.out _).mono ?_
  rintro _ w1 ⟨rfl, hb1⟩
  have hb := HB0.out.ext hb1
  have c0 := hb.cell 0
  have c1 := hb.cell 1
  have f := hb.frozen
  simp at c0 c1
  have HB := Lib.hid hb
  have HC := Lib.hid (Chg.of_ext (g := g) hb1)
  clear hb hb1
  go_wp2
  all_goals (try simp only [beq_iff_eq, beq_eq_false_iff_ne, bne_iff_ne, bne_eq_false_iff_eq, ne_eq] at *)
  all_goals go_ret
  all_goals first
    | (have hc : (bad || decide (¬ e = 0)) = true := by (simp [*]; try omega)
       rw [HT'.out, if_pos hc]
       exact ⟨rfl, box_bad HB.out (by first | rfl | (simp [*]; done) | (simp [*]; omega)), Chg.set HC.out _⟩)
    | (have hc : ¬ (bad || decide (¬ e = 0)) = true := by (simp [*]; try omega)
       rw [HT'.out, if_neg hc]
       exact ⟨rfl, box_rest _ (box_bad HB.out (by first | rfl | (simp [*]; done) | (simp [*]; omega))) rfl, Chg.set (Chg.set HC.out _) _⟩)
set_option maxRecDepth 100000 in
set_option maxHeartbeats 800000 in
theorem readerText_any (mx : Nat) (hmx : mx ≤ 1099511627776) (g : Nat) (l : List UInt8) (bad : Bool) (hl : l.length ≤ 1099511627776) (w : World) (hb : Box w g 93 #[str l, .bool bad]) :
    Calls Try.prog 58 #[.pointer (some ⟨g, 0, none⟩), .int .i64 mx] w fun e w' => e = .returned (str (readText mx (l, bad)).1) ∧ Box w' g 93 #[str (readText mx (l, bad)).2.1, .bool (readText mx (l, bad)).2.2] ∧ Chg g w w' := by
  have H := Lib.hid (fun w => takeText_ref mx (by omega) l hl w)
  have h2 := takeText_len mx l
  have h3 := takeText_err mx l
  have HT : Hid (∀ n k e, takeText mx l = (n, k, e) → readText mx (l, bad) = if (bad || decide (e ≠ 0)) = true then ([], (l, true)) else (n, (l.drop k, false))) := by
    rintro n k e h
    rw [readText, h]
  obtain ⟨n, k, e, hu⟩ : ∃ n k e, takeText mx l = (n, k, e) := ⟨_, _, _, rfl⟩
  have HT' := Lib.hid (HT.out n k e hu)
  rw [hu] at H h2 h3
  dsimp only at H h2 h3
  clear HT hu
  have HB0 := Lib.hid hb
  have c0 := hb.cell 0
  have c1 := hb.cell 1
  simp at c0 c1
  go_enter Try.func58, Try.ntmps58
  go_wp2_with fail
  refine (H.out _).mono ?_
  rintro _ w1 ⟨rfl, hb1⟩
  have hb := HB0.out.ext hb1
  have c0 := hb.cell 0
  have c1 := hb.cell 1
  have f := hb.frozen
  simp at c0 c1
  have HB := Lib.hid hb
  have HC := Lib.hid (Chg.of_ext (g := g) hb1)
  clear hb hb1
  go_wp2
  all_goals (try simp only [beq_iff_eq, beq_eq_false_iff_ne, bne_iff_ne, bne_eq_false_iff_eq, ne_eq] at *)
  all_goals go_ret
  all_goals first
    | (have hc : (bad || decide (¬ e = 0)) = true := by (simp [*]; try omega)
       rw [HT'.out, if_pos hc]
       exact ⟨rfl, box_bad HB.out (by first | rfl | (simp [*]; done) | (simp [*]; omega)), Chg.set HC.out _⟩)
    | (have hc : ¬ (bad || decide (¬ e = 0)) = true := by (simp [*]; try omega)
       rw [HT'.out, if_neg hc]
       exact ⟨rfl, box_rest _ HB.out (by first | rfl | assumption | (simp [*]; done) | (simp [*]; omega)), Chg.set HC.out _⟩)

set_option maxRecDepth 100000 in
set_option maxHeartbeats 800000 in
theorem takerMany_any (g : Nat) (l : List UInt8) (bad : Bool) (hl : l.length ≤ 1099511627776) (w : World) (hb : Box w g 89 #[str l, .bool bad]) :
    Calls Try.prog 55 #[.pointer (some ⟨g, 0, none⟩)] w fun e w' => e = .returned (.int .u64 (readMany (l, bad)).1) ∧ Box w' g 89 #[str (readMany (l, bad)).2.1, .bool (readMany (l, bad)).2.2] ∧ Chg g w w' := by
  have H := Lib.hid (takerUint_any g l bad hl w hb)
  have h1 := readUint_le (mx := 4611686018427387904) (st := (l, bad))
  have HT : Hid (∀ n s b, readUint 4611686018427387904 (l, bad) = (n, (s, b)) → readMany (l, bad) = if (b || decide (1000 < n)) = true then (0, (s, true)) else (n, (s, false))) := by
    rintro n s b h
    rw [readMany, h]
  obtain ⟨n, s, b, hu⟩ : ∃ n s b, readUint 4611686018427387904 (l, bad) = (n, (s, b)) := ⟨_, _, _, rfl⟩
  have HT' := Lib.hid (HT.out n s b hu)
  rw [hu] at H h1
  dsimp only at H h1
  clear HT hu hb
  go_enter Try.func55, Try.ntmps55
  go_wp2_with fail
  refine H.out.mono ?_
  rintro _ w1 ⟨rfl, hb, hcg⟩
  have c0 := hb.cell 0
  have c1 := hb.cell 1
  have f := hb.frozen
  simp at c0 c1
  have HB := Lib.hid hb
  have HC := Lib.hid hcg
  clear hb hcg
  go_wp2
  all_goals (try simp only [beq_iff_eq, beq_eq_false_iff_ne, bne_iff_ne, bne_eq_false_iff_eq, ne_eq] at *)
  all_goals go_ret
  all_goals first
    | (have hc : (b || decide (1000 < n)) = true := by (simp [*]; try omega)
       rw [HT'.out, if_pos hc]
       exact ⟨rfl, box_bad HB.out (by first | rfl | (simp [*]; done) | (simp [*]; omega)), Chg.set HC.out _⟩)
    | (have hc : ¬ (b || decide (1000 < n)) = true := by (simp [*]; try omega)
       rw [HT'.out, if_neg hc]
       exact ⟨rfl, box_bad HB.out (by first | rfl | (simp [*]; done) | (simp [*]; omega)), Chg.set HC.out _⟩)
end Go.Proofs.Yteplpgknnlehnaa
