/- Parts of this work, one behind the other: Ro. -/
import Derived.Test.YtkblkdnihppmnaaGreatDoorPku21
import Derived.Test.YtkblkdnihppmnaaGreatDoorPku22
import Derived.Test.YtkblkdnihppmnaaGreatDoorPku23
import Derived.Test.YtkblkdnihppmnaaGreatDoorPku24
import Derived.Test.YtkblkdnihppmnaaGreatDoorPku25
import Derived.Test.YtkblkdnihppmnaaGreatDoorPku26
import Derived.Test.YtkblkdnihppmnaaGreatDoorPku27
import Derived.Test.YtkblkdnihppmnaaGreatDoorPku28
/- Filters (layer 21): the document's next, as the chapter's token tells. -/
namespace Go.Proofs.YtkblkdnihppmnaaGreatDoor
set_option linter.unusedSimpArgs false
set_option linter.unusedVariables false
open Go.RowKit Res Filt

/-- the document's token at p, as cells -/
def tkC (s : List UInt8) (p : Nat) : List Value := [fi (kindN (lex s p).kind), fi ((lex s p).at_ : Nat), fi ((lex s p).next : Nat), str (textOf s (lex s p))]
theorem ref_next (s : List UInt8) (hs : s.length ≤ 1048576) (g p : Nat) (hp : p ≤ s.length) (w : World) (h0 : w.cell? ⟨g, 0, none⟩ = some (str s)) (h1 : w.cell? ⟨g, 1, none⟩ = some (fi (p : Int))) :
    Calls Tryz.prog 19 #[.pointer (some ⟨g, 0, none⟩)] w fun e w' => e = .returned (.agg (tkC s p).toArray) ∧ Ext w w' := by
  have hi : startOf s p ≤ s.length := start_le hp
  obtain ⟨i, hie⟩ : ∃ i, startOf s p = i := ⟨_, rfl⟩
  have ok : ∀ {k : TK} {j : Nat} {tx : List UInt8}, lex s p = ⟨k, i, j⟩ → tx = (s.drop i).take (j - i) → Calls Tryz.prog 19 #[.pointer (some ⟨g, 0, none⟩)] w (fun e w' => e = .returned (.agg #[fi (kindN k), fi (i : Int), fi (j : Int), str tx]) ∧ Ext w w') → Calls Tryz.prog 19 #[.pointer (some ⟨g, 0, none⟩)] w (fun e w' => e = .returned (.agg (tkC s p).toArray) ∧ Ext w w') := by
    intro k j tx hl htx h
    unfold tkC textOf
    rw [hl]
    subst htx
    exact h
  rcases Nat.lt_or_ge i s.length with hlt | hge
  · obtain ⟨c, hc⟩ : ∃ c, s[i]? = some c := ⟨_, List.getElem?_eq_getElem hlt⟩
    have hL := lex_of (p := p) (by rw [hie]; exact hc)
    rw [hie] at hL
    have hr : (s.drop (i + 1)).length = s.length - (i + 1) := List.length_drop
    by_cases h1' : isSmall c = true
    · have e : lexCons c (s.drop (i + 1)) = (.word, runLen isAln (s.drop (i + 1)) + 1) := if_pos h1'
      rw [e] at hL
      exact ok hL rfl (rnext_word s hs g p hp w h0 h1 i hie c hc h1' (i + (runLen isAln (s.drop (i + 1)) + 1)) (by omega))
    have hn1 : ¬ isSmall c = true := h1'
    have h1' : isSmall c = false := by simpa using h1'
    by_cases h2 : (isDigit c || c.toNat == 45) = true
    · have e : lexCons c (s.drop (i + 1)) = (if (numOf (c :: (s.drop (i + 1)).take (runLen isDigit (s.drop (i + 1))))).isSome then .digits else .bad, runLen isDigit (s.drop (i + 1)) + 1) := by
        unfold lexCons
        rw [if_neg hn1, if_pos h2]
      rw [e] at hL
      obtain ⟨n, hn⟩ : ∃ n, runLen isDigit (s.drop (i + 1)) = n := ⟨_, rfl⟩
      have hj : i + 1 + runLen isDigit (s.drop (i + 1)) = i + (n + 1) := by rw [hn]; omega
      have etx : c :: (s.drop (i + 1)).take n = (s.drop i).take (i + (n + 1) - i) := by
        rw [drop_cons hc, show i + (n + 1) - i = n + 1 by omega]
        rfl
      rw [hn, etx] at hL
      have hdig : isDigit c = true ∨ (isDigit c = false ∧ c.toNat = 45) := by
        cases hd : isDigit c
        · rw [hd] at h2; exact .inr ⟨rfl, by simpa using h2⟩
        · exact .inl rfl
      cases hb : (numOf ((s.drop i).take (i + (n + 1) - i))).isSome with
      | true =>
        rw [hb, if_pos rfl] at hL
        rcases hdig with hd | ⟨hd, h45⟩
        · exact ok hL rfl (rnext_digit_ok s hs g p hp w h0 h1 i hie c hc h1' hd _ hj hb)
        · exact ok hL rfl (rnext_minus_ok s hs g p hp w h0 h1 i hie c hc h1' hd h45 _ hj hb)
      | false =>
        rw [hb, if_neg (by simp)] at hL
        rcases hdig with hd | ⟨hd, h45⟩
        · exact ok hL rfl (rnext_digit_bad s hs g p hp w h0 h1 i hie c hc h1' hd _ hj hb)
        · exact ok hL rfl (rnext_minus_bad s hs g p hp w h0 h1 i hie c hc h1' hd h45 _ hj hb)
    have h2a : isDigit c = false := by
      cases hd : isDigit c
      · rfl
      · rw [hd] at h2; exact (h2 rfl).elim
    have h45 : c.toNat ≠ 45 := by
      intro h
      rw [h] at h2
      simp at h2
    by_cases h3 : c.toNat = 34
    · have e : lexCons c (s.drop (i + 1)) = (if runLen notQuote (s.drop (i + 1)) < (s.drop (i + 1)).length ∧ runLen notQuote (s.drop (i + 1)) ≤ 64 then (.quoted, runLen notQuote (s.drop (i + 1)) + 2) else (.bad, 0)) := by
        unfold lexCons
        rw [if_neg hn1, if_neg h2, if_pos h3]
      rw [e] at hL
      obtain ⟨n, hn⟩ : ∃ n, runLen notQuote (s.drop (i + 1)) = n := ⟨_, rfl⟩
      rw [hn] at hL
      have hj : i + 1 + runLen notQuote (s.drop (i + 1)) = i + 1 + n := by rw [hn]
      by_cases hnl : n < (s.drop (i + 1)).length
      · by_cases hn64 : n ≤ 64
        · rw [if_pos ⟨hnl, hn64⟩] at hL
          have := rnext_quoted s hs g p hp w h0 h1 i hie c hc h1' h2a h3 (i + 1 + n) hj (by omega) (by omega)
          rw [show i + 1 + n + 1 = i + (n + 2) by omega] at this
          exact ok hL rfl this
        · rw [if_neg (fun x => hn64 x.2)] at hL
          exact ok hL (by rw [Nat.add_zero, Nat.sub_self, List.take_zero]) (rnext_quoted_long s hs g p hp w h0 h1 i hie c hc h1' h2a h3 (i + 1 + n) hj (by omega) (by omega))
      · rw [if_neg (fun x => hnl x.1)] at hL
        exact ok hL (by rw [Nat.add_zero, Nat.sub_self, List.take_zero]) (rnext_quoted_none s hs g p hp w h0 h1 i hie c hc h1' h2a h3 (i + 1 + n) hj (by omega))
    by_cases h4 : c.toNat = 40 ∨ c.toNat = 41 ∨ c.toNat = 61
    · have e : lexCons c (s.drop (i + 1)) = (.mark, 1) := by
        unfold lexCons
        rw [if_neg hn1, if_neg h2, if_neg h3, if_pos h4]
      rw [e] at hL
      have lit : ∀ {v : UInt8}, c.toNat = v.toNat → s[i]? = some v := fun {v} h => by rw [hc, UInt8.toNat_inj.1 h]
      rcases h4 with h4 | h4 | h4
      · exact ok hL rfl (rnext_open s hs g p hp w h0 h1 i hie (lit h4))
      · exact ok hL rfl (rnext_close s hs g p hp w h0 h1 i hie (lit h4))
      · exact ok hL rfl (rnext_eq s hs g p hp w h0 h1 i hie (lit h4))
    by_cases h5 : c.toNat = 33 ∨ c.toNat = 60 ∨ c.toNat = 62
    · have e : lexCons c (s.drop (i + 1)) = (if (s.drop (i + 1)).head? = some 61 then (.mark, 2) else if c.toNat = 33 then (.bad, 1) else (.mark, 1)) := by
        unfold lexCons
        rw [if_neg hn1, if_neg h2, if_neg h3, if_neg h4, if_pos h5]
      have lit : ∀ {v : UInt8}, c.toNat = v.toNat → s[i]? = some v := fun {v} h => by rw [hc, UInt8.toNat_inj.1 h]
      rw [e, List.head?_drop] at hL
      rcases Nat.lt_or_ge (i + 1) s.length with hl2 | hl2
      · obtain ⟨c2, hc2⟩ : ∃ c2, s[i + 1]? = some c2 := ⟨_, List.getElem?_eq_getElem hl2⟩
        rw [hc2] at hL
        by_cases h61 : c2.toNat = 61
        · have e61 : c2 = 61 := UInt8.toNat_inj.1 h61
          rw [if_pos (by rw [e61])] at hL
          rcases h5 with h5 | h5 | h5
          · exact ok hL rfl (rnext_no_eq s hs g p hp w h0 h1 i hie (lit h5) (by rw [hc2, e61]))
          · exact ok hL rfl (rnext_lt_eq s hs g p hp w h0 h1 i hie (lit h5) (by rw [hc2, e61]))
          · exact ok hL rfl (rnext_gt_eq s hs g p hp w h0 h1 i hie (lit h5) (by rw [hc2, e61]))
        · rw [if_neg (by intro x; apply h61; have : c2 = 61 := by simpa using x
                         rw [this]; rfl)] at hL
          rcases h5 with h5 | h5 | h5
          · rw [if_pos h5] at hL
            exact ok hL rfl (rnext_no_other s hs g p hp w h0 h1 i hie (lit h5) c2 hc2 h61)
          · rw [if_neg (by omega)] at hL
            exact ok hL rfl (rnext_lt_other s hs g p hp w h0 h1 i hie (lit h5) c2 hc2 h61)
          · rw [if_neg (by omega)] at hL
            exact ok hL rfl (rnext_gt_other s hs g p hp w h0 h1 i hie (lit h5) c2 hc2 h61)
      · rw [List.getElem?_eq_none hl2, if_neg (by simp)] at hL
        rcases h5 with h5 | h5 | h5
        · rw [if_pos h5] at hL
          exact ok hL rfl (rnext_no_end s hs g p hp w h0 h1 i hie (lit h5) hl2)
        · rw [if_neg (by omega)] at hL
          exact ok hL rfl (rnext_lt_end s hs g p hp w h0 h1 i hie (lit h5) hl2)
        · rw [if_neg (by omega)] at hL
          exact ok hL rfl (rnext_gt_end s hs g p hp w h0 h1 i hie (lit h5) hl2)
    · have e : lexCons c (s.drop (i + 1)) = (.bad, 1) := by
        unfold lexCons
        rw [if_neg hn1, if_neg h2, if_neg h3, if_neg h4, if_neg h5]
      rw [e] at hL
      exact ok hL rfl (rnext_none s hs g p hp w h0 h1 i hie c hc h1' h2a h45 h3 h4 h5)
  · have hL : lex s p = ⟨.ended, i, i⟩ := by
      unfold lex
      rw [hie, List.drop_eq_nil_of_le hge]
      rfl
    exact ok hL (by rw [Nat.sub_self, List.take_zero]) (rnext_ended s hs g p hp w h0 h1 i hie (by omega))
end Go.Proofs.YtkblkdnihppmnaaGreatDoor
