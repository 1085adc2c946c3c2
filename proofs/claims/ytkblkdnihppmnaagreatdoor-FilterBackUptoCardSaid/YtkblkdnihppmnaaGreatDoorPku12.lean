/- Parts of this work, one behind the other: FiltW4. -/
import Derived.Test.YtkblkdnihppmnaaGreatDoorPku7
import Derived.Test.YtkblkdnihppmnaaGreatDoorPku8
import Derived.Test.YtkblkdnihppmnaaGreatDoorPku9
import Derived.Test.YtkblkdnihppmnaaGreatDoorPku10
/- Filters (layer 21): the program's tokens (walk, fourth part: next, as the chapter's token tells). -/
namespace Go.Proofs.YtkblkdnihppmnaaGreatDoor
set_option linter.unusedSimpArgs false
set_option linter.unusedVariables false
open Go.RowKit Res Filt

def kindN : TK → Int
  | .ended => 0
  | .word => 1
  | .digits => 2
  | .quoted => 3
  | .mark => 4
  | .bad => 5
theorem drop_cons {s : List UInt8} {i : Nat} {c : UInt8} (h : s[i]? = some c) : s.drop i = c :: s.drop (i + 1) := by
  obtain ⟨hi, rfl⟩ := List.getElem?_eq_some_iff.1 h
  exact List.drop_eq_getElem_cons hi
/-- the token at p, by its byte -/
theorem lex_of {s : List UInt8} {p : Nat} {c : UInt8} (h : s[startOf s p]? = some c) : lex s p = ⟨(lexCons c (s.drop (startOf s p + 1))).1, startOf s p, startOf s p + (lexCons c (s.drop (startOf s p + 1))).2⟩ := by
  unfold lex
  rw [drop_cons h]
  rfl
/-- the program's next -/
def NextPost (S : Nat → Prop) (s : List UInt8) (p g : Nat) (d : Int) (w : World) (e : Ending) (w' : World) : Prop :=
  ((lex s p).kind ≠ .bad ∧ e = .returned (.tuple #[]) ∧ Mem S w [rd g s (lex s p).next (kindN (lex s p).kind) (lex s p).at_ (textOf s (lex s p)) d] w') ∨
  ((lex s p).kind = .bad ∧ e = .panicked (faultAt (lex s p).at_) ∧ ∃ cs, Mem S w [bx g 49 cs] w')
theorem next_any (s : List UInt8) (hs : s.length ≤ 1048576) (p : Nat) (hp : p ≤ s.length) {S : Nat → Prop} {g : Nat} {k0 t0 d : Int} {ts : List UInt8} {w : World} (M : Mem S w [rd g s p k0 t0 ts d] w) (hNv : Nv w) (hS : ∀ b, b < Tryz.prog.globals.size → S b) :
    Calls Tryz.prog 16 #[.pointer (some ⟨g, 0, none⟩)] w (NextPost S s p g d w) := by
  have hi : startOf s p ≤ s.length := start_le hp
  obtain ⟨i, hie⟩ : ∃ i, startOf s p = i := ⟨_, rfl⟩
  -- the two ends
  have ok : ∀ {k : TK} {j : Nat} {tx : List UInt8}, lex s p = ⟨k, i, j⟩ → k ≠ .bad → tx = (s.drop i).take (j - i) → Calls Tryz.prog 16 #[.pointer (some ⟨g, 0, none⟩)] w (fun e w' => e = .returned (.tuple #[]) ∧ Mem S w [rd g s (j : Int) (kindN k) i tx d] w') → Calls Tryz.prog 16 #[.pointer (some ⟨g, 0, none⟩)] w (NextPost S s p g d w) := by
    intro k j tx hl hk htx h
    refine h.mono fun e w' ⟨h1, h2⟩ => .inl ?_
    unfold textOf
    rw [hl]
    subst htx
    exact ⟨hk, h1, h2⟩
  have no : ∀ {j : Nat}, lex s p = ⟨.bad, i, j⟩ → Calls Tryz.prog 16 #[.pointer (some ⟨g, 0, none⟩)] w (fun e w' => e = .panicked (faultAt i) ∧ ∃ cs, Mem S w [bx g 49 cs] w') → Calls Tryz.prog 16 #[.pointer (some ⟨g, 0, none⟩)] w (NextPost S s p g d w) := by
    intro j hl h
    refine h.mono fun e w' ⟨h1, h2⟩ => .inr ?_
    rw [hl]
    exact ⟨rfl, h1, h2⟩
  rcases Nat.lt_or_ge i s.length with hlt | hge
  · obtain ⟨c, hc⟩ : ∃ c, s[i]? = some c := ⟨_, List.getElem?_eq_getElem hlt⟩
    have hL := lex_of (p := p) (by rw [hie]; exact hc)
    rw [hie] at hL
    have hr : (s.drop (i + 1)).length = s.length - (i + 1) := List.length_drop
    by_cases h1 : isSmall c = true
    · have e : lexCons c (s.drop (i + 1)) = (.word, runLen isAln (s.drop (i + 1)) + 1) := if_pos h1
      rw [e] at hL
      have := next_word s hs p hp i hie c hc h1 (i + (runLen isAln (s.drop (i + 1)) + 1)) (by omega) M
      exact ok hL (by simp) rfl this
    have h1 : isSmall c = false := by simpa using h1
    have hn1 : ¬ isSmall c = true := by simp [h1]
    by_cases h2 : (isDigit c || c.toNat == 45) = true
    · have e : lexCons c (s.drop (i + 1)) = (if (numOf (c :: (s.drop (i + 1)).take (runLen isDigit (s.drop (i + 1))))).isSome then .digits else .bad, runLen isDigit (s.drop (i + 1)) + 1) := by
        unfold lexCons
        rw [if_neg hn1, if_pos h2]
      rw [e] at hL
      obtain ⟨n, hn⟩ : ∃ n, runLen isDigit (s.drop (i + 1)) = n := ⟨_, rfl⟩
      have hj : i + 1 + runLen isDigit (s.drop (i + 1)) = i + (n + 1) := by rw [hn]; omega
      have etx : c :: (s.drop (i + 1)).take n = (s.drop i).take (i + (n + 1) - i) := by
        rw [drop_cons hc, show i + (n + 1) - i = n + 1 by omega]
        rfl
      rw [hn, etx] at hL
      rw [← num_same] at hL
      have hdig : isDigit c = true ∨ (isDigit c = false ∧ c.toNat = 45) := by
        cases hd : isDigit c
        · rw [hd] at h2; exact .inr ⟨rfl, by simpa using h2⟩
        · exact .inl rfl
      cases hp' : Lib.parseIntB 64 ((s.drop i).take (i + (n + 1) - i)) with
      | ok v =>
        by_cases he : Lib.itoa v = (s.drop i).take (i + (n + 1) - i)
        · have en : numP ((s.drop i).take (i + (n + 1) - i)) = some v := by unfold numP; rw [hp']; exact if_pos he
          rw [en] at hL
          refine ok hL (by simp) rfl ?_
          rcases hdig with hd | ⟨hd, h45⟩
          · exact next_digit_ok s hs p hp i hie c hc h1 hd _ hj v hp' he M hNv hS
          · exact next_minus_ok s hs p hp i hie c hc h1 hd h45 _ hj v hp' he M hNv hS
        · have en : numP ((s.drop i).take (i + (n + 1) - i)) = none := by unfold numP; rw [hp']; exact if_neg he
          rw [en] at hL
          refine no hL ?_
          rcases hdig with hd | ⟨hd, h45⟩
          · exact next_digit_bad s hs p hp i hie c hc h1 hd _ hj v hp' he M hNv hS
          · exact next_minus_bad s hs p hp i hie c hc h1 hd h45 _ hj v hp' he M hNv hS
      | _ =>
        have en : numP ((s.drop i).take (i + (n + 1) - i)) = none := by unfold numP; rw [hp']
        rw [en] at hL
        refine no hL ?_
        rcases hdig with hd | ⟨hd, h45⟩
        · exact next_digit_no s hs p hp i hie c hc h1 hd _ hj (fun v => by rw [hp']; simp) M hNv hS
        · exact next_minus_no s hs p hp i hie c hc h1 hd h45 _ hj (fun v => by rw [hp']; simp) M hNv hS
    have h2a : isDigit c = false := by
      cases hd : isDigit c
      · rfl
      · rw [hd] at h2; exact (h2 rfl).elim
    have h45 : c.toNat ≠ 45 := by
      intro h
      rw [h] at h2
      simp at h2
    by_cases h3 : c.toNat = 34
    · have e : lexCons c (s.drop (i + 1)) = (if runLen notQuote (s.drop (i + 1)) < (s.drop (i + 1)).length ∧ runLen notQuote (s.drop (i + 1)) ≤ 64 then (.quoted, runLen notQuote (s.drop (i + 1)) + 2) else (.bad, 0)) := by
        unfold lexCons
        rw [if_neg hn1, if_neg h2, if_pos h3]
      rw [e] at hL
      obtain ⟨n, hn⟩ : ∃ n, runLen notQuote (s.drop (i + 1)) = n := ⟨_, rfl⟩
      rw [hn] at hL
      by_cases hnl : n < (s.drop (i + 1)).length
      · by_cases hn64 : n ≤ 64
        · rw [if_pos ⟨hnl, hn64⟩] at hL
          have ej : i + 1 + (n + 1) = i + (n + 2) := by omega
          have := next_quoted s hs p hp i hie c hc h1 h2a h3 n hn hnl hn64 M
          rw [ej] at this
          exact ok hL (by simp) rfl this
        · rw [if_neg (fun x => hn64 x.2)] at hL
          exact no hL (next_quoted_long s hs p hp i hie c hc h1 h2a h3 n hn hnl hn64 M)
      · rw [if_neg (fun x => hnl x.1)] at hL
        exact no hL (next_quoted_none s hs p hp i hie c hc h1 h2a h3 (by rw [hn]; exact hnl) M)
    by_cases h4 : c.toNat = 40 ∨ c.toNat = 41 ∨ c.toNat = 61
    · have e : lexCons c (s.drop (i + 1)) = (.mark, 1) := by
        unfold lexCons
        rw [if_neg hn1, if_neg h2, if_neg h3, if_pos h4]
      rw [e] at hL
      exact ok hL (by simp) rfl (next_mark1 s hs p hp i hie c hc h1 h2a h4 M)
    by_cases h5 : c.toNat = 33 ∨ c.toNat = 60 ∨ c.toNat = 62
    · have e : lexCons c (s.drop (i + 1)) = (if (s.drop (i + 1)).head? = some 61 then (.mark, 2) else if c.toNat = 33 then (.bad, 1) else (.mark, 1)) := by
        unfold lexCons
        rw [if_neg hn1, if_neg h2, if_neg h3, if_neg h4, if_pos h5]
      rw [e, List.head?_drop] at hL
      rcases Nat.lt_or_ge (i + 1) s.length with hl2 | hl2
      · obtain ⟨c2, hc2⟩ : ∃ c2, s[i + 1]? = some c2 := ⟨_, List.getElem?_eq_getElem hl2⟩
        rw [hc2] at hL
        by_cases h61 : c2.toNat = 61
        · have e61 : c2 = 61 := UInt8.toNat_inj.1 h61
          rw [if_pos (by rw [e61])] at hL
          exact ok hL (by simp) rfl (next_mark2 s hs p hp i hie c hc h1 h2a h5 c2 hc2 h61 M)
        · rw [if_neg (by intro x; apply h61; have : c2 = 61 := by simpa using x
                         rw [this]; rfl)] at hL
          by_cases h33 : c.toNat = 33
          · rw [if_pos h33] at hL
            exact no hL (next_mark2_other_bad s hs p hp i hie c hc h1 h2a c2 hc2 h61 h33 M)
          · rw [if_neg h33] at hL
            exact ok hL (by simp) rfl (next_mark2_other s hs p hp i hie c hc h1 h2a h5 c2 hc2 h61 h33 M)
      · rw [List.getElem?_eq_none hl2, if_neg (by simp)] at hL
        by_cases h33 : c.toNat = 33
        · rw [if_pos h33] at hL
          exact no hL (next_mark2_end_bad s hs p hp i hie c hc h1 h2a hl2 h33 M)
        · rw [if_neg h33] at hL
          exact ok hL (by simp) rfl (next_mark2_end s hs p hp i hie c hc h1 h2a h5 hl2 h33 M)
    · have e : lexCons c (s.drop (i + 1)) = (.bad, 1) := by
        unfold lexCons
        rw [if_neg hn1, if_neg h2, if_neg h3, if_neg h4, if_neg h5]
      rw [e] at hL
      exact no hL (next_none s hs p hp i hie c hc h1 h2a h45 h3 h4 h5 M)
  · have hL : lex s p = ⟨.ended, i, i⟩ := by
      unfold lex
      rw [hie, List.drop_eq_nil_of_le hge]
      rfl
    refine ok hL (by simp) ?_ (next_ended s hs p hp i hie (by omega) M)
    rw [Nat.sub_self, List.take_zero]
end Go.Proofs.YtkblkdnihppmnaaGreatDoor
