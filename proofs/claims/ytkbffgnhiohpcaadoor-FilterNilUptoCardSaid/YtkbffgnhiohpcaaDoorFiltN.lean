/- Filters (layer 21): what the library reads as a number is what the chapter does. No program in sight. -/
import Derived.Test.YtkbffgnhiohpcaaDoorFiltE
import Derived.Lib.ParseIntB
import Derived.Lib.Bytealg
namespace Go.Proofs.YtkbffgnhiohpcaaDoor.Filt
set_option linter.unusedSimpArgs false
set_option linter.unusedVariables false

/-- the program's test of a numeral -/
def numP (l : List UInt8) : Option Int := match Lib.parseIntB 64 l with
  | .ok v => if Lib.itoa v = l then some v else none
  | _ => none
theorem fold_mono : ∀ (l : List UInt8) (n : Nat), n ≤ l.foldl (fun n c => 10 * n + (c.toNat - 48)) n
  | [], n => Nat.le_refl _
  | c :: l, n => Nat.le_trans (show n ≤ 10 * n + (c.toNat - 48) by omega) (fold_mono l _)
theorem parse_all : ∀ (l : List UInt8) (acc M : Nat), l.all isDigit = true → M ≤ 18446744073709551615 → acc ≤ M → (l.foldl (fun n c => 10 * n + (c.toNat - 48)) acc ≤ M → Lib.parseUintM M acc l = .ok (l.foldl (fun n c => 10 * n + (c.toNat - 48)) acc)) ∧ (M < l.foldl (fun n c => 10 * n + (c.toNat - 48)) acc → Lib.parseUintM M acc l = .range)
  | [], acc, M, _, _, ha => ⟨fun _ => rfl, fun h => by simp at h; omega⟩
  | c :: r, acc, M, hd, hM, ha => by
    rw [List.all_cons, Bool.and_eq_true] at hd
    have hc : 48 ≤ c.toNat ∧ c.toNat ≤ 57 := of_decide_eq_true hd.1
    simp only [List.foldl_cons]
    have hm := fold_mono r (10 * acc + (c.toNat - 48))
    unfold Lib.parseUintM
    rw [if_pos hc]
    have e : acc * 10 + (c.toNat - 48) = 10 * acc + (c.toNat - 48) := by omega
    rw [e]
    by_cases h1 : 1844674407370955162 ≤ acc
    · rw [if_pos h1]
      exact ⟨fun h => by omega, fun _ => rfl⟩
    · rw [if_neg h1]
      by_cases h2 : M < 10 * acc + (c.toNat - 48)
      · rw [if_pos h2]
        exact ⟨fun h => by omega, fun _ => rfl⟩
      · rw [if_neg h2]
        exact parse_all r _ M hd.2 hM (by omega)
theorem parse_none : ∀ (l : List UInt8) (acc M : Nat), l.all isDigit = false → ∀ v, Lib.parseUintM M acc l ≠ .ok v
  | [], _, _, h, _ => by simp at h
  | c :: r, acc, M, h, v => by
    unfold Lib.parseUintM
    split
    · rename_i hc
      split
      · simp
      · split
        · simp
        · refine parse_none r _ M ?_ v
          rw [List.all_cons] at h
          have : isDigit c = true := decide_eq_true hc
          rw [this] at h
          simpa using h
    · simp
theorem decDigits_first : ∀ (l : List UInt8), l.all isDigit = true → l ≠ [] → (l.length = 1 ∨ l.head? ≠ some 48) → Lib.decDigits (decVal l) = l := by
  intro l
  induction hn : l.length using Nat.strongRecOn generalizing l with
  | _ n ih =>
    intro hd hne hz
    rcases List.eq_nil_or_concat l with rfl | ⟨r, c, rfl⟩
    · exact (hne rfl).elim
    rw [List.concat_eq_append] at *
    rw [List.all_append, Bool.and_eq_true] at hd
    have hc : 48 ≤ c.toNat ∧ c.toNat ≤ 57 := by
      have : isDigit c = true := by simpa using hd.2
      exact of_decide_eq_true this
    rw [decVal_snoc]
    cases r with
    | nil =>
      show Lib.decDigits (10 * 0 + (c.toNat - 48)) = [c]
      rw [Lib.decDigits, dif_pos (by omega)]
      congr 1
      apply UInt8.toNat_inj.1
      simp only [UInt8.toNat_ofNat']
      omega
    | cons b r =>
      have hb : b.toNat ≠ 48 := by
        rcases hz with h | h
        · simp only [List.length_append, List.length_cons, List.length_nil] at hn; omega
        · intro e
          apply h
          have : b = 48 := UInt8.toNat_inj.1 e
          rw [this]; rfl
      have hh : (b :: r).head? ≠ some 48 := fun e => hb (by
        have : b = 48 := by simpa using e
        rw [this]; rfl)
      have hdv := ih (b :: r).length (by rw [← hn]; simp) (b :: r) rfl hd.1 (by simp) (.inr hh)
      have hb2 : 48 ≤ b.toNat ∧ b.toNat ≤ 57 := by
        have := hd.1
        rw [List.all_cons, Bool.and_eq_true] at this
        exact of_decide_eq_true this.1
      have hpos : 0 < decVal (b :: r) := by
        have := fold_mono r (10 * 0 + (b.toNat - 48))
        show 0 < r.foldl _ (10 * 0 + (b.toNat - 48))
        omega
      rw [Lib.decDigits, dif_neg (by omega)]
      have e1 : (10 * decVal (b :: r) + (c.toNat - 48)) / 10 = decVal (b :: r) := by omega
      have e2 : (10 * decVal (b :: r) + (c.toNat - 48)) % 10 = c.toNat - 48 := by omega
      rw [e1, e2, hdv]
      congr 2
      apply UInt8.toNat_inj.1
      simp only [UInt8.toNat_ofNat']
      omega
theorem digits_ne {l : List UInt8} (h : l.all isDigit = true) : ∀ c r, l = c :: r → ¬ (c.toNat = 43 ∨ c.toNat = 45) := by
  rintro c r rfl
  rw [List.all_cons, Bool.and_eq_true] at h
  have : 48 ≤ c.toNat ∧ c.toNat ≤ 57 := of_decide_eq_true h.1
  omega
/-- what the program reads as a number is what the chapter does -/
theorem num_same (l : List UInt8) : numP l = numOf l := by
  have key : ∀ (v : Int), Lib.parseIntB 64 l = .ok v → Lib.itoa v = l → numOf l = some v := by
    intro v h1 h2
    have hv : I64 v := by
      unfold Lib.parseIntB at h1
      unfold I64
      cases l with
      | nil => cases h1
      | cons c r =>
        dsimp only at h1
        split at h1
        · cases h1
        · cases h1
        · split at h1
          · cases h1
          · split at h1
            · cases h1
            · cases h1
              split <;> omega
    rw [← h2]
    exact num_itoa hv
  have back : ∀ (v : Int), numOf l = some v → Lib.parseIntB 64 l = .ok v ∧ Lib.itoa v = l := by
    intro v h
    unfold numOf at h
    split at h
    · rename_i r
      split at h
      · rename_i hc
        cases h
        simp only [Bool.and_eq_true, decide_eq_true_eq] at hc
        obtain ⟨⟨hm, h0⟩, h1⟩ := hc
        unfold magOk at hm
        simp only [Bool.and_eq_true] at hm
        obtain ⟨⟨m1, m2⟩, m3⟩ := hm
        have hne : r ≠ [] := by rintro rfl; simp at m1
        have hz : r.length = 1 ∨ r.head? ≠ some 48 := by
          rw [Bool.or_eq_true] at m3
          rcases m3 with m3 | m3
          · exact .inl (by simpa using m3)
          · exact .inr (by simpa using m3)
        have hp := (parse_all r 0 18446744073709551615 m2 (by omega) (by omega)).1
        have hdv : decVal r = r.foldl (fun n c => 10 * n + (c.toNat - 48)) 0 := rfl
        rw [← hdv] at hp
        have hp := hp (by omega)
        have hu : Lib.parseUintB 64 r = .ok (decVal r) := by
          unfold Lib.parseUintB
          rw [if_neg hne]
          exact hp
        constructor
        · unfold Lib.parseIntB
          dsimp only
          rw [if_pos (by decide), hu]
          dsimp only
          rw [if_neg (fun h => h.1 (by decide)), if_neg (fun h => by have := h.2; omega), if_pos (by decide)]
        · unfold Lib.itoa
          rw [if_pos (by omega)]
          have : (-(decVal r : Int)).natAbs = decVal r := by omega
          rw [this, decDigits_first r m2 hne hz]
      · cases h
    · rename_i hl
      split at h
      · rename_i hc
        cases h
        simp only [Bool.and_eq_true, decide_eq_true_eq] at hc
        obtain ⟨hm, h1⟩ := hc
        unfold magOk at hm
        simp only [Bool.and_eq_true] at hm
        obtain ⟨⟨m1, m2⟩, m3⟩ := hm
        have hne : l ≠ [] := by rintro rfl; simp at m1
        have hz : l.length = 1 ∨ l.head? ≠ some 48 := by
          rw [Bool.or_eq_true] at m3
          rcases m3 with m3 | m3
          · exact .inl (by simpa using m3)
          · exact .inr (by simpa using m3)
        have hp := (parse_all l 0 18446744073709551615 m2 (by omega) (by omega)).1
        have hdv : decVal l = l.foldl (fun n c => 10 * n + (c.toNat - 48)) 0 := rfl
        rw [← hdv] at hp
        have hp := hp (by omega)
        have hu : Lib.parseUintB 64 l = .ok (decVal l) := by
          unfold Lib.parseUintB
          rw [if_neg hne]
          exact hp
        have hfirst := digits_ne m2
        have hdd := decDigits_first l m2 hne hz
        constructor
        · cases l with
          | nil => exact (hne rfl).elim
          | cons c r =>
            have hc := hfirst c r rfl
            have hc45 : ¬ c.toNat = 45 := fun h => hc (.inr h)
            unfold Lib.parseIntB
            dsimp only
            rw [if_neg hc, hu]
            dsimp only
            rw [if_neg (by omega), if_neg (by simp [hc45]), if_neg hc45]
        · unfold Lib.itoa
          rw [if_neg (by omega)]
          show Lib.decDigits ((decVal l : Int)).toNat = l
          rw [Int.toNat_natCast, hdd]
      · cases h
  cases hn : numOf l with
  | some v =>
    obtain ⟨h1, h2⟩ := back v hn
    unfold numP
    rw [h1]
    exact if_pos h2
  | none =>
    unfold numP
    cases hp : Lib.parseIntB 64 l with
    | ok v =>
      refine if_neg fun h => ?_
      have := key v hp h
      rw [hn] at this
      cases this
    | _ => rfl
/-- where a quote stands -/
theorem index_quote : ∀ l : List UInt8, Lib.indexByte l 34 = if runLen notQuote l < l.length then (runLen notQuote l : Int) else -1
  | [] => rfl
  | c :: l => by
    unfold Lib.indexByte runLen
    by_cases h : c = 34
    · have e : notQuote c = false := by rw [h]; decide
      rw [e, h]
      simp
    · have e : notQuote c = true := decide_eq_true (fun x => h (UInt8.toNat_inj.1 x))
      have hb : (c == 34) = false := by simpa using h
      rw [e, hb, index_quote l]
      simp only [if_true, Bool.false_eq_true, if_false, List.length_cons]
      by_cases h2 : runLen notQuote l < l.length
      · have h3 : ((runLen notQuote l : Int) == -1) = false := by rw [beq_eq_false_iff_ne]; omega
        simp only [if_pos h2, h3, if_pos (show runLen notQuote l + 1 < l.length + 1 by omega)]
        simp
      · simp only [if_neg h2, if_neg (show ¬ runLen notQuote l + 1 < l.length + 1 by omega)]
        rfl
end Go.Proofs.YtkbffgnhiohpcaaDoor.Filt
