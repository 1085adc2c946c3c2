/- What takes numbers and texts one behind the other: the contracts with names for what comes of them. -/
import Derived.Test.YteplpgknnlehnaaTaker
namespace Go.Proofs.Yteplpgknnlehnaa
set_option linter.unusedSimpArgs false
set_option linter.unusedVariables false
open Go.RowKit

theorem takerUint_st  (g : Nat) (st : Rd) (hl : st.1.length ≤ 1099511627776) (w : World) (hb : Box w g 89 #[str st.1, .bool st.2]) :
    Calls Try.prog 54 #[.pointer (some ⟨g, 0, none⟩)] w fun e w' => ∃ n st', Hid (readUint 4611686018427387904 st = (n, st')) ∧ n ≤ 4611686018427387904 ∧ st'.1.length ≤ st.1.length ∧ e = .returned (.int .u64 (n : Nat)) ∧ Box w' g 89 #[str st'.1, .bool st'.2] ∧ Chg g w w' :=
  (takerUint_any g st.1 st.2 hl w hb).mono fun _ _ ⟨h1, h2, h3⟩ => ⟨_, _, rfl, readUint_le, readUint_len, h1, h2, h3⟩
theorem takerText_st  (g : Nat) (st : Rd) (hl : st.1.length ≤ 1099511627776) (w : World) (hb : Box w g 89 #[str st.1, .bool st.2]) :
    Calls Try.prog 56 #[.pointer (some ⟨g, 0, none⟩)] w fun e w' => ∃ n st', Hid (readText 96 st = (n, st')) ∧ n.length ≤ 96 ∧ st'.1.length ≤ st.1.length ∧ e = .returned (str n) ∧ Box w' g 89 #[str st'.1, .bool st'.2] ∧ Chg g w w' :=
  (takerText_any g st.1 st.2 hl w hb).mono fun _ _ ⟨h1, h2, h3⟩ => ⟨_, _, rfl, readText_most, readText_len, h1, h2, h3⟩
theorem readMany_le {st : Rd} : (readMany st).1 ≤ 1000 := by
  unfold readMany
  dsimp only
  split
  · simp
  · rename_i h
    simp at h
    exact h.2
theorem readMany_len {st : Rd} : (readMany st).2.1.length ≤ st.1.length := by
  have := readUint_len (mx := 4611686018427387904) (st := st)
  unfold readMany
  dsimp only
  split <;> exact this
theorem takerMany_st  (g : Nat) (st : Rd) (hl : st.1.length ≤ 1099511627776) (w : World) (hb : Box w g 89 #[str st.1, .bool st.2]) :
    Calls Try.prog 55 #[.pointer (some ⟨g, 0, none⟩)] w fun e w' => ∃ n st', Hid (readMany st = (n, st')) ∧ n ≤ 1000 ∧ st'.1.length ≤ st.1.length ∧ e = .returned (.int .u64 (n : Nat)) ∧ Box w' g 89 #[str st'.1, .bool st'.2] ∧ Chg g w w' :=
  (takerMany_any g st.1 st.2 hl w hb).mono fun _ _ ⟨h1, h2, h3⟩ => ⟨_, _, rfl, readMany_le, readMany_len, h1, h2, h3⟩
theorem readerUint_st (mx : Nat) (hmx : mx ≤ 4611686018427387904) (g : Nat) (st : Rd) (hl : st.1.length ≤ 1099511627776) (w : World) (hb : Box w g 93 #[str st.1, .bool st.2]) :
    Calls Try.prog 57 #[.pointer (some ⟨g, 0, none⟩), .int .u64 mx] w fun e w' => ∃ n st', Hid (readUint mx st = (n, st')) ∧ n ≤ mx ∧ st'.1.length ≤ st.1.length ∧ e = .returned (.int .u64 (n : Nat)) ∧ Box w' g 93 #[str st'.1, .bool st'.2] ∧ Chg g w w' :=
  (readerUint_any mx hmx g st.1 st.2 hl w hb).mono fun _ _ ⟨h1, h2, h3⟩ => ⟨_, _, rfl, readUint_le, readUint_len, h1, h2, h3⟩
theorem readerText_st (mx : Nat) (hmx : mx ≤ 1099511627776) (g : Nat) (st : Rd) (hl : st.1.length ≤ 1099511627776) (w : World) (hb : Box w g 93 #[str st.1, .bool st.2]) :
    Calls Try.prog 58 #[.pointer (some ⟨g, 0, none⟩), .int .i64 mx] w fun e w' => ∃ n st', Hid (readText mx st = (n, st')) ∧ n.length ≤ mx ∧ st'.1.length ≤ st.1.length ∧ e = .returned (str n) ∧ Box w' g 93 #[str st'.1, .bool st'.2] ∧ Chg g w w' :=
  (readerText_any mx hmx g st.1 st.2 hl w hb).mono fun _ _ ⟨h1, h2, h3⟩ => ⟨_, _, rfl, readText_most, readText_len, h1, h2, h3⟩
end Go.Proofs.Yteplpgknnlehnaa
