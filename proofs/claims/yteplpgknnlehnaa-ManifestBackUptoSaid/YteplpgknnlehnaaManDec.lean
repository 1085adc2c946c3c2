/- What an edit's bytes say (layer 10), as plain functions: the program's way and the document's way agree. No program in sight. -/
import Derived.Test.YteplpgknnlehnaaTaker
import Derived.Test.YteplpgknnlehnaaMan4
namespace Go.Proofs.Yteplpgknnlehnaa
set_option linter.unusedSimpArgs false
set_option linter.unusedVariables false
open Go.RowKit

theorem readUint_good {mx : Nat} {st : Rd} (h : (readUint mx st).2.2 = false) : st.2 = false ∧ (takeUint st.1).2.2 = 0 ∧ (takeUint st.1).1 ≤ mx ∧ readUint mx st = ((takeUint st.1).1, (st.1.drop (takeUint st.1).2.1, false)) := by
  unfold readUint at *
  split at h
  · cases h
  · rename_i hc
    rw [if_neg hc]
    simp at hc
    exact ⟨hc.1.1, hc.1.2, hc.2, rfl⟩
theorem readUint_mk {mx : Nat} {st : Rd} (h1 : st.2 = false) (h2 : (takeUint st.1).2.2 = 0) (h3 : (takeUint st.1).1 ≤ mx) : readUint mx st = ((takeUint st.1).1, (st.1.drop (takeUint st.1).2.1, false)) := by
  unfold readUint
  rw [if_neg (by simp [h1, h2]; omega)]
theorem readUint_wide {a b : Nat} {st : Rd} (h : (readUint a st).2.2 = false) (hab : a ≤ b) : readUint b st = readUint a st := by
  obtain ⟨h1, h2, h3, h4⟩ := readUint_good h
  rw [h4, readUint_mk h1 h2 (Nat.le_trans h3 hab)]
theorem readUint_narrow {a b : Nat} {st : Rd} (h : (readUint b st).2.2 = false) (ha : (readUint b st).1 ≤ a) : readUint a st = readUint b st := by
  obtain ⟨h1, h2, h3, h4⟩ := readUint_good h
  rw [h4] at ha ⊢
  exact readUint_mk h1 h2 ha
theorem readText_good {mx : Nat} {st : Rd} (h : (readText mx st).2.2 = false) : st.2 = false := by
  unfold readText at h
  split at h
  · cases h
  · rename_i hc
    simp at hc
    exact hc.1

/-- a table, with the bounds of its numbers -/
def tableOf (bn bl bs bc : Nat) (st : Rd) : Table × Rd :=
  (⟨(readUint bn st).1, ((readUint bl (readUint bn st).2).1 : Nat), ((readUint bs (readUint bl (readUint bn st).2).2).1 : Nat), ((readUint bc (readUint bs (readUint bl (readUint bn st).2).2).2).1 : Nat),
    (readText 96 (readUint bc (readUint bs (readUint bl (readUint bn st).2).2).2).2).1, (readText 96 (readText 96 (readUint bc (readUint bs (readUint bl (readUint bn st).2).2).2).2).2).1⟩,
   (readText 96 (readText 96 (readUint bc (readUint bs (readUint bl (readUint bn st).2).2).2).2).2).2)
theorem tableOf_good {bn bl bs bc : Nat} {st : Rd} (h : (tableOf bn bl bs bc st).2.2 = false) :
    (readUint bn st).2.2 = false ∧ (readUint bl (readUint bn st).2).2.2 = false ∧ (readUint bs (readUint bl (readUint bn st).2).2).2.2 = false ∧ (readUint bc (readUint bs (readUint bl (readUint bn st).2).2).2).2.2 = false := by
  have h5 := readText_good (readText_good h)
  have h4 := (readUint_good h5).1
  have h3 := (readUint_good h4).1
  exact ⟨(readUint_good h3).1, h3, h4, h5⟩
theorem tableOf_bad {bn bl bs bc : Nat} {st : Rd} (h : (tableOf bn bl bs bc st).2.2 = false) : st.2 = false := (readUint_good (tableOf_good h).1).1
theorem tableOf_wide {bn bl bs bc bn' bl' bs' bc' : Nat} {st : Rd} (h : (tableOf bn bl bs bc st).2.2 = false) (h1 : bn ≤ bn') (h2 : bl ≤ bl') (h3 : bs ≤ bs') (h4 : bc ≤ bc') : tableOf bn' bl' bs' bc' st = tableOf bn bl bs bc st := by
  obtain ⟨g1, g2, g3, g4⟩ := tableOf_good h
  have e1 := readUint_wide g1 h1
  have e2 := readUint_wide g2 h2
  have e3 := readUint_wide g3 h3
  have e4 := readUint_wide g4 h4
  unfold tableOf
  rw [e1, e2, e3, e4]
theorem tableOf_narrow {bn bl bs bc bn' bl' bs' bc' : Nat} {st : Rd} (h : (tableOf bn' bl' bs' bc' st).2.2 = false) (h1 : (tableOf bn' bl' bs' bc' st).1.num ≤ bn) (h2 : (tableOf bn' bl' bs' bc' st).1.level ≤ bl) (h3 : (tableOf bn' bl' bs' bc' st).1.size ≤ bs)
    (h4 : (tableOf bn' bl' bs' bc' st).1.count ≤ bc) : tableOf bn bl bs bc st = tableOf bn' bl' bs' bc' st := by
  obtain ⟨g1, g2, g3, g4⟩ := tableOf_good h
  dsimp only [tableOf] at h1 h2 h3 h4
  have e1 := readUint_narrow g1 h1
  have e2 := readUint_narrow (a := bl) g2 (by omega)
  have e3 := readUint_narrow (a := bs) g3 (by omega)
  have e4 := readUint_narrow (a := bc) g4 (by omega)
  unfold tableOf
  rw [e1, e2, e3, e4]

/-- so many, one behind the other -/
def iter {α : Type} (f : Rd → α × Rd) : Nat → Rd → List α × Rd
  | 0, st => ([], st)
  | k + 1, st => ((iter f k st).1 ++ [(f (iter f k st).2).1], (f (iter f k st).2).2)
/-- so many, or up to where something is bad -/
def iterS {α : Type} (f : Rd → α × Rd) : Nat → Rd → List α × Rd
  | 0, st => ([], st)
  | k + 1, st => if (iterS f k st).2.2 = true then iterS f k st else ((iterS f k st).1 ++ [(f (iterS f k st).2).1], (f (iterS f k st).2).2)
theorem iter_len {α : Type} (f : Rd → α × Rd) : ∀ (k : Nat) (st : Rd), (iter f k st).1.length = k
  | 0, st => rfl
  | k + 1, st => by simp [iter, iter_len f k st]
theorem iterS_len {α : Type} (f : Rd → α × Rd) : ∀ (k : Nat) (st : Rd), (iterS f k st).1.length ≤ k
  | 0, st => by simp [iterS]
  | k + 1, st => by
    have := iterS_len f k st
    unfold iterS
    split
    · omega
    · simp; omega
theorem iterS_stop {α : Type} (f : Rd → α × Rd) {k : Nat} {st : Rd} (h : (iterS f k st).2.2 = true) : ∀ m, k ≤ m → iterS f m st = iterS f k st
  | m, hm => by
    induction m with
    | zero => obtain rfl : k = 0 := by omega
              rfl
    | succ m ih =>
      rcases Nat.lt_or_ge m k with h1 | h1
      · obtain rfl : k = m + 1 := by omega
        rfl
      · have h2 := ih h1
        rw [iterS, if_pos (by rw [h2]; exact h), h2]
theorem iter_len_le {α : Type} (f : Rd → α × Rd) (hf : ∀ st, (f st).2.1.length ≤ st.1.length) : ∀ (k : Nat) (st : Rd), (iter f k st).2.1.length ≤ st.1.length
  | 0, st => Nat.le_refl _
  | k + 1, st => Nat.le_trans (hf _) (iter_len_le f hf k st)
theorem iterS_len_le {α : Type} (f : Rd → α × Rd) (hf : ∀ st, (f st).2.1.length ≤ st.1.length) : ∀ (k : Nat) (st : Rd), (iterS f k st).2.1.length ≤ st.1.length
  | 0, st => Nat.le_refl _
  | k + 1, st => by
    unfold iterS
    split
    · exact iterS_len_le f hf k st
    · exact Nat.le_trans (hf _) (iterS_len_le f hf k st)
theorem tableOf_len (bn bl bs bc : Nat) (st : Rd) : (tableOf bn bl bs bc st).2.1.length ≤ st.1.length :=
  Nat.le_trans readText_len (Nat.le_trans readText_len (Nat.le_trans readUint_len (Nat.le_trans readUint_len (Nat.le_trans readUint_len readUint_len))))

/-- the document's way ends well: so does the program's, alike -/
theorem iter_of_iterS {α : Type} {f g : Rd → α × Rd} (hg : ∀ st, (g st).2.2 = false → f st = g st) : ∀ (k : Nat) (st : Rd), (iterS g k st).2.2 = false → iter f k st = iterS g k st
  | 0, st, _ => rfl
  | k + 1, st, h => by
    unfold iterS at h ⊢
    split at h
    · rename_i h1; rw [h] at h1; cases h1
    · rename_i h1
      have h1' := Bool.not_eq_true _ |>.mp h1
      rw [if_neg h1]
      unfold iter
      rw [iter_of_iterS hg k st h1', hg _ h]
theorem iterS_of_iter {α : Type} {f g : Rd → α × Rd} {p : α → Prop} (hb : ∀ st, (f st).2.2 = false → st.2 = false) (hf : ∀ st, (f st).2.2 = false → p (f st).1 → g st = f st) : ∀ (k : Nat) (st : Rd), (iter f k st).2.2 = false → (∀ x ∈ (iter f k st).1, p x) → iterS g k st = iter f k st
  | 0, st, _, _ => rfl
  | k + 1, st, h, hp => by
    unfold iter at h hp
    have h1 := hb _ h
    have ih := iterS_of_iter hb hf k st h1 (fun x hx => hp x (by simp [hx]))
    unfold iterS iter
    rw [ih, if_neg (by rw [h1]; simp), hf _ h (hp _ (by simp))]
theorem iter_bad {α : Type} {f : Rd → α × Rd} (hb : ∀ st, (f st).2.2 = false → st.2 = false) : ∀ (k : Nat) (st : Rd), (iter f k st).2.2 = false → st.2 = false
  | 0, st, h => h
  | k + 1, st, h => iter_bad hb k st (hb _ h)
theorem iterS_bad {α : Type} {f : Rd → α × Rd} (hb : ∀ st, (f st).2.2 = false → st.2 = false) : ∀ (k : Nat) (st : Rd), (iterS f k st).2.2 = false → st.2 = false
  | 0, st, h => h
  | k + 1, st, h => by
    unfold iterS at h
    split at h
    · exact iterS_bad hb k st h
    · exact iterS_bad hb k st (hb _ h)

abbrev pTable := tableOf 4611686018427387904 4611686018427387904 4611686018427387904 4611686018427387904
abbrev rTable := tableOf 4611686018427387904 3 1073741824 1073741824
abbrev uint62 := readUint 4611686018427387904

/-- what an edit's bytes say, however they are read: `many` says how many there are, `tabs` and `nums` take so many tables and numbers -/
def editOf (many : Rd → Nat × Rd) (tabs : Nat → Rd → List Table × Rd) (nums : Nat → Rd → List Nat × Rd) (st : Rd) : Edit × Rd :=
  let a := uint62 st
  let b := uint62 a.2
  let c := uint62 b.2
  let m := many c.2
  let q := tabs m.1 m.2
  let n := many q.2
  let d := nums n.1 n.2
  (⟨a.1, b.1, c.1, q.1, d.1⟩, d.2)
def pEdit := editOf readMany (iter pTable) (iter uint62)
def rEdit := editOf (readUint 1000) (iterS rTable) (iterS uint62)

theorem readMany_good {st : Rd} (h : (readMany st).2.2 = false) : (uint62 st).2.2 = false ∧ (uint62 st).1 ≤ 1000 ∧ readMany st = uint62 st := by
  unfold readMany at h ⊢
  dsimp only at h ⊢
  split at h
  · cases h
  · rename_i hc
    rw [if_neg hc]
    simp at hc
    refine ⟨hc.1, hc.2, ?_⟩
    show ((uint62 st).1, ((uint62 st).2.1, false)) = _
    rw [← hc.1]
theorem many_of_ref {st : Rd} (h : (readUint 1000 st).2.2 = false) : readMany st = readUint 1000 st := by
  have h1 := readUint_wide (b := 4611686018427387904) h (by omega)
  obtain ⟨g1, g2, g3, g4⟩ := readUint_good h
  unfold readMany
  dsimp only
  rw [h1, if_neg (by rw [h, g4]; simp; exact g3), ← h]
theorem many_ref {st : Rd} (h : (readMany st).2.2 = false) : readUint 1000 st = readMany st := by
  obtain ⟨h1, h2, h3⟩ := readMany_good h
  rw [h3]
  exact readUint_narrow h1 h2
theorem readUint_bad {mx : Nat} (st : Rd) (h : (readUint mx st).2.2 = false) : st.2 = false := (readUint_good h).1
theorem readMany_bad (st : Rd) (h : (readMany st).2.2 = false) : st.2 = false := readUint_bad _ (readMany_good h).1

theorem may_table_bounds {t : Table} (h : t.may = true) : t.num ≤ 4611686018427387904 ∧ t.level ≤ 3 ∧ t.size ≤ 1073741824 ∧ t.count ≤ 1073741824 := by
  simp [Table.may] at h
  omega

theorem pEdit_of_ref {st : Rd} (h : (rEdit st).2.2 = false) : pEdit st = rEdit st := by
  unfold rEdit editOf at h
  dsimp only at h
  have h5 := iterS_bad (f := uint62) readUint_bad _ _ h
  have h4 := readUint_bad _ h5
  have h3 := iterS_bad (f := rTable) (fun _ => tableOf_bad) _ _ h4
  have h2 := readUint_bad _ h3
  unfold pEdit rEdit editOf
  dsimp only
  have e1 := many_of_ref h3
  have e2 := iter_of_iterS (f := pTable) (g := rTable) (fun st hs => tableOf_wide hs (by omega) (by omega) (by omega) (by omega)) _ _ h4
  have e3 := many_of_ref h5
  have e4 := iter_of_iterS (f := uint62) (g := uint62) (fun st hs => rfl) _ _ h
  rw [e1, e2, e3, e4]
theorem rEdit_of {st : Rd} (h : (pEdit st).2.2 = false) (hm : ∀ t ∈ (pEdit st).1.add, t.may = true) : rEdit st = pEdit st := by
  unfold pEdit editOf at h hm
  dsimp only at h hm
  have h5 := iter_bad (f := uint62) readUint_bad _ _ h
  have h4 := readMany_bad _ h5
  have h3 := iter_bad (f := pTable) (fun _ => tableOf_bad) _ _ h4
  unfold pEdit rEdit editOf
  dsimp only
  have e1 := many_ref h3
  have e2 := iterS_of_iter (f := pTable) (g := rTable) (p := fun t => t.may = true) (fun _ => tableOf_bad) (fun st hs hp => by
    obtain ⟨b1, b2, b3, b4⟩ := may_table_bounds hp
    exact tableOf_narrow hs b1 (by omega) (by omega) (by omega)) _ _ h4 hm
  have e3 := many_ref h5
  have e4 := iterS_of_iter (f := uint62) (g := uint62) (p := fun _ => True) readUint_bad (fun st hs _ => rfl) _ _ h (fun _ _ => trivial)
  rw [e1, e2, e3, e4]

def noEdit : Edit := ⟨0, 0, 0, [], []⟩
/-- what came of it -/
def editEnd (l : List UInt8) (r : Edit × Rd) : Edit × Int := if (r.2.2 || !r.2.1.isEmpty || !r.1.may || decide (262144 < l.length)) = true then (noEdit, 3) else (r.1, 0)
def decodeEdit (l : List UInt8) : Edit × Int := editEnd l (pEdit (l, false))
theorem decodeEdit_eq (l : List UInt8) : editEnd l (rEdit (l, false)) = decodeEdit l := by
  unfold decodeEdit
  cases hb : (rEdit (l, false)).2.2 with
  | false => rw [pEdit_of_ref hb]
  | true =>
    have h1 : editEnd l (rEdit (l, false)) = (noEdit, 3) := by rw [editEnd, if_pos (by simp [hb])]
    rw [h1, editEnd]
    split
    · rfl
    · rename_i hc
      simp at hc
      have := rEdit_of (st := (l, false)) hc.1.1.1 (fun t ht => by
        have h2 := hc.1.2
        simp [Edit.may] at h2
        exact h2.2.1 t ht)
      rw [this, hc.1.1.1] at hb
      cases hb
theorem iter_all {α : Type} {f : Rd → α × Rd} {p : α → Prop} (hf : ∀ st, p (f st).1) : ∀ (k : Nat) (st : Rd), ∀ x ∈ (iter f k st).1, p x
  | 0, st => by simp [iter]
  | k + 1, st => by
    intro x hx
    rcases List.mem_append.1 hx with h | h
    · exact iter_all hf k st x h
    · simp at h
      subst h
      exact hf _
theorem iterS_all {α : Type} {f : Rd → α × Rd} {p : α → Prop} (hf : ∀ st, p (f st).1) : ∀ (k : Nat) (st : Rd), ∀ x ∈ (iterS f k st).1, p x
  | 0, st => by simp [iterS]
  | k + 1, st => by
    intro x hx
    unfold iterS at hx
    split at hx
    · exact iterS_all hf k st x hx
    · rcases List.mem_append.1 hx with h | h
      · exact iterS_all hf k st x h
      · simp at h
        subst h
        exact hf _
theorem tableOf_ok {bn bl bs bc : Nat} (h1 : bn ≤ 4611686018427387904) (h2 : bl ≤ 4611686018427387904) (h3 : bs ≤ 4611686018427387904) (h4 : bc ≤ 4611686018427387904) (st : Rd) : (tableOf bn bl bs bc st).1.Ok := by
  unfold tableOf
  refine ⟨?_, ?_, ?_, ?_, ?_, ?_⟩
  · dsimp only
    have := readUint_le (mx := bn) (st := st)
    unfold M64; omega
  · dsimp only
    have := readUint_le (mx := bl) (st := (readUint bn st).2)
    unfold I64; omega
  · dsimp only
    have := readUint_le (mx := bs) (st := (readUint bl (readUint bn st).2).2)
    unfold I64; omega
  · dsimp only
    have := readUint_le (mx := bc) (st := (readUint bs (readUint bl (readUint bn st).2).2).2)
    unfold I64; omega
  · exact Nat.le_trans readText_most (by omega)
  · exact Nat.le_trans readText_most (by omega)
theorem uint62_lt (st : Rd) : (uint62 st).1 < M64 := by
  have : (uint62 st).1 ≤ 4611686018427387904 := readUint_le
  unfold M64; omega
end Go.Proofs.Yteplpgknnlehnaa
