/- Parts of this work, one behind the other: FiltC, FiltD, FiltE, FiltN, FiltK, Rfa, Rfp. -/
import Derived.Lib.ItoaNum
import Derived.Lib.ParseIntB
import Derived.Lib.Bytealg
import Derived.Lib.TrimByte
import Derived.IntWalk
import Derived.Test.YtkblkdnihppmnaaGreatDoorPkv0
/- Filters (layer 21): texts in brackets, put together (the plain law of FilterLogic). No program in sight. -/
namespace Go.Proofs.YtkblkdnihppmnaaGreatDoor.Filt
set_option linter.unusedSimpArgs false
set_option linter.unusedVariables false

theorem runLen_le (p : UInt8 → Bool) : ∀ l, runLen p l ≤ l.length
  | [] => Nat.le_refl _
  | c :: l => by unfold runLen; split <;> simp; exact runLen_le p l
/-- a run is not longer where something else stands behind -/
theorem runLen_app {p : UInt8 → Bool} {c : UInt8} (hc : p c = false) (m : List UInt8) : ∀ l, runLen p (l ++ c :: m) = runLen p l
  | [] => by simp [runLen, hc]
  | x :: l => by
    simp only [List.cons_append, runLen]
    split
    · rw [runLen_app hc m l]
    · rfl
theorem runLen_in {p : UInt8 → Bool} (m : List UInt8) : ∀ l, runLen p l < l.length → runLen p (l ++ m) = runLen p l
  | [], h => by simp at h
  | x :: l, h => by
    simp only [List.cons_append, runLen] at h ⊢
    split
    · rename_i h1
      rw [if_pos h1] at h
      rw [runLen_in m l (by simpa using h)]
    · rfl
/-- the token of a rest, where a closing bracket stands behind -/
theorem lexRest_app (m : List UInt8) {l : List UInt8} (hl : l ≠ []) (hb : (lexRest l).1 ≠ .bad) : lexRest (l ++ 41 :: m) = lexRest l := by
  cases l with
  | nil => exact (hl rfl).elim
  | cons c r =>
    have a1 : runLen isAln (r ++ 41 :: m) = runLen isAln r := runLen_app (by decide) m r
    have a2 : runLen isDigit (r ++ 41 :: m) = runLen isDigit r := runLen_app (by decide) m r
    have a3 : (r ++ 41 :: m).take (runLen isDigit r) = r.take (runLen isDigit r) := List.take_append_of_le_length (runLen_le _ _)
    rw [List.cons_append]
    show lexCons c (r ++ 41 :: m) = lexCons c r
    replace hb : (lexCons c r).1 ≠ .bad := hb
    unfold lexCons at hb ⊢
    rw [a1, a2, a3]
    split
    · rfl
    · rename_i h1
      rw [if_neg h1] at hb
      split
      · rfl
      · rename_i h2
        rw [if_neg h2] at hb
        split
        · rename_i h3
          rw [if_pos h3] at hb
          by_cases h4 : runLen notQuote r < r.length ∧ runLen notQuote r ≤ 64
          · have := runLen_in (p := notQuote) (41 :: m) r h4.1
            rw [this, if_pos h4, if_pos ⟨by simp; omega, h4.2⟩]
          · rw [if_neg h4] at hb
            exact (hb rfl).elim
        · rename_i h3
          rw [if_neg h3] at hb
          split
          · rfl
          · rename_i h4
            rw [if_neg h4] at hb
            split
            · rename_i h5
              cases r with
              | nil => simp
              | cons y r => simp
            · rfl
theorem lexRest_len {l : List UInt8} (hb : (lexRest l).1 ≠ .bad) : (lexRest l).2 ≤ l.length := by
  cases l with
  | nil => exact Nat.le_refl _
  | cons c r =>
    have a1 := runLen_le isAln r
    have a2 := runLen_le isDigit r
    show (lexCons c r).2 ≤ _
    replace hb : (lexCons c r).1 ≠ .bad := hb
    unfold lexCons at hb ⊢
    simp only [List.length_cons]
    split
    · simp; omega
    · rename_i h1
      rw [if_neg h1] at hb
      split
      · simp; omega
      · rename_i h2
        rw [if_neg h2] at hb
        split
        · rename_i h3
          rw [if_pos h3] at hb
          split
          · simp; omega
          · rename_i h4; rw [if_neg h4] at hb; exact (hb rfl).elim
        · split
          · simp
          · split
            · split
              · rename_i h6
                cases r with
                | nil => simp at h6
                | cons y r => simp
              · split <;> simp
            · simp
theorem lexRest_end {l : List UInt8} : (lexRest l).1 = .ended ↔ l = [] := by
  constructor
  · intro h
    cases l with
    | nil => rfl
    | cons c r =>
      replace h : (lexCons c r).1 = .ended := h
      unfold lexCons at h
      (repeat' split at h) <;> cases h
  · rintro rfl; rfl

section
variable {pre s post : List UInt8}
/-- a text in brackets, within another -/
abbrev ctx (pre s post : List UInt8) : List UInt8 := pre ++ (s ++ 41 :: post)
theorem ctx_drop {p : Nat} (hp : p ≤ s.length) : (ctx pre s post).drop (pre.length + p) = s.drop p ++ 41 :: post := by
  rw [List.drop_append, List.drop_eq_nil_of_le (by omega), List.nil_append, show pre.length + p - pre.length = p by omega, List.drop_append_of_le_length hp]
theorem ctx_start {p : Nat} (hp : p ≤ s.length) : startOf (ctx pre s post) (pre.length + p) = pre.length + startOf s p := by
  unfold startOf
  rw [ctx_drop hp, runLen_app (by decide)]
  omega
theorem start_le {p : Nat} (hp : p ≤ s.length) : startOf s p ≤ s.length := by
  unfold startOf
  have := runLen_le isBlank (s.drop p)
  rw [List.length_drop] at this
  omega
theorem ctx_end {p : Nat} (hp : p ≤ s.length) (he : (lex s p).kind = .ended) : lex (ctx pre s post) (pre.length + p) = ⟨.mark, pre.length + s.length, pre.length + s.length + 1⟩ ∧ textOf (ctx pre s post) (lex (ctx pre s post) (pre.length + p)) = wClose := by
  have h1 : s.drop (startOf s p) = [] := lexRest_end.1 he
  have h2 : startOf s p = s.length := Nat.le_antisymm (start_le hp) (List.drop_eq_nil_iff.1 h1)
  have h3 : lex (ctx pre s post) (pre.length + p) = ⟨.mark, pre.length + s.length, pre.length + s.length + 1⟩ := by
    unfold lex
    rw [ctx_start hp, h2, ctx_drop (Nat.le_refl _), List.drop_length]
    rfl
  refine ⟨h3, ?_⟩
  rw [h3]
  unfold textOf
  simp only []
  rw [ctx_drop (Nat.le_refl _), List.drop_length, show pre.length + s.length + 1 - (pre.length + s.length) = 1 by omega]
  rfl
theorem next_le {p : Nat} (hp : p ≤ s.length) (hb : (lex s p).kind ≠ .bad) : (lex s p).at_ ≤ (lex s p).next ∧ (lex s p).next ≤ s.length := by
  have h1 := start_le hp
  have h2 := lexRest_len (l := s.drop (startOf s p)) hb
  rw [List.length_drop] at h2
  unfold lex
  simp only []
  omega
theorem ctx_in {p : Nat} (hp : p ≤ s.length) (hb : (lex s p).kind ≠ .bad) (he : (lex s p).kind ≠ .ended) :
    lex (ctx pre s post) (pre.length + p) = ⟨(lex s p).kind, pre.length + (lex s p).at_, pre.length + (lex s p).next⟩ ∧ textOf (ctx pre s post) (lex (ctx pre s post) (pre.length + p)) = textOf s (lex s p) := by
  have hs := start_le hp
  have hne : s.drop (startOf s p) ≠ [] := fun h => he (lexRest_end.2 h)
  have h3 : lex (ctx pre s post) (pre.length + p) = ⟨(lex s p).kind, pre.length + (lex s p).at_, pre.length + (lex s p).next⟩ := by
    unfold lex
    rw [ctx_start hp, ctx_drop hs, lexRest_app post hne hb]
    simp only [Nat.add_assoc]
  refine ⟨h3, ?_⟩
  obtain ⟨n1, n2⟩ := next_le hp hb
  rw [h3]
  unfold textOf
  simp only []
  rw [ctx_drop (by omega), show pre.length + (lex s p).next - (pre.length + (lex s p).at_) = (lex s p).next - (lex s p).at_ by omega]
  exact List.take_append_of_le_length (by rw [List.length_drop]; omega)
theorem ctx_word {p : Nat} (hp : p ≤ s.length) (hb : (lex s p).kind ≠ .bad) {w : List UInt8} (hw : w ≠ wClose) : isWord (ctx pre s post) (pre.length + p) w ↔ isWord s p w := by
  by_cases he : (lex s p).kind = .ended
  · obtain ⟨h1, h2⟩ := ctx_end (pre := pre) (post := post) hp he
    constructor
    · rintro ⟨-, h⟩; rw [h2] at h; exact (hw h.symm).elim
    · rintro ⟨h | h, -⟩ <;> (rw [he] at h; cases h)
  · obtain ⟨h1, h2⟩ := ctx_in (pre := pre) (post := post) hp hb he
    unfold isWord
    rw [h2, h1]
theorem ctx_next {p : Nat} (hp : p ≤ s.length) (hb : (lex s p).kind ≠ .bad) (he : (lex s p).kind ≠ .ended) : nextOf (ctx pre s post) (pre.length + p) = pre.length + nextOf s p := by
  have := (ctx_in (pre := pre) (post := post) hp hb he).1
  unfold nextOf
  rw [this]
theorem word_ne {p : Nat} {w : List UInt8} (h : isWord s p w) : (lex s p).kind ≠ .ended := by
  intro he
  rcases h.1 with h | h <;> (rw [he] at h; cases h)
theorem testVal_ctx {f k p : Nat} (hp : p ≤ s.length) (hb : (lex s p).kind ≠ .bad) {n : Nd} (h : testVal s f k p = some n) : testVal (ctx pre s post) f k (pre.length + p) = some n := by
  have he : (lex s p).kind ≠ .ended := by
    intro he
    unfold testVal at h
    rw [he] at h
    simp at h
  obtain ⟨h1, h2⟩ := ctx_in (pre := pre) (post := post) hp hb he
  unfold testVal at h ⊢
  rw [h2, h1]
  exact h
end
section
variable {s : List UInt8}
theorem adv_look {p q : Nat} (h : (lang s).adv true p = .ok q) : q = nextOf s p ∧ (lex s q).kind ≠ .bad := adv_ok h
theorem test_ctx (pre post : List UInt8) {p q : Nat} {n : Nd} (hp : p ≤ s.length) (hb : (lex s p).kind ≠ .bad) (h : (lang s).test true p = .ok n q) :
    (lang (ctx pre s post)).test false (pre.length + p) = .ok n (pre.length + q) ∧ q ≤ s.length ∧ (lex s q).kind ≠ .bad := by
  have h : testG (lang s).adv (atOf s) (isField s) (isAsk s) (fun p p1 p2 => testVal s (fieldOf s p) (askOf s p1) p2) true p = .ok n q := h
  show testG (lang (ctx pre s post)).adv (atOf (ctx pre s post)) (isField (ctx pre s post)) (isAsk (ctx pre s post)) (fun p p1 p2 => testVal (ctx pre s post) (fieldOf (ctx pre s post) p) (askOf (ctx pre s post) p1) p2) false (pre.length + p) = _ ∧ _
  unfold testG at h ⊢
  split at h
  · rename_i h1
    have e1 : (lex s p).kind ≠ .ended := by rw [h1.1]; simp
    obtain ⟨c1, c2⟩ := ctx_in (pre := pre) (post := post) hp hb e1
    have f1 : fieldOf (ctx pre s post) (pre.length + p) = fieldOf s p := by unfold fieldOf; rw [c2]
    have h1' : isField (ctx pre s post) (pre.length + p) := by unfold isField; rw [f1, c1]; exact h1
    rw [if_pos h1', adv_lazy]
    split at h
    · cases h
    · rename_i p1 ha
      obtain ⟨rfl, b1⟩ := adv_look ha
      have l1 : nextOf s p ≤ s.length := (next_le hp hb).2
      have n1 : (lang (ctx pre s post)).next (pre.length + p) = pre.length + nextOf s p := ctx_next hp hb e1
      simp only [n1]
      split at h
      · rename_i h2
        have e2 : (lex s (nextOf s p)).kind ≠ .ended := by rw [h2.1]; simp
        obtain ⟨c3, c4⟩ := ctx_in (pre := pre) (post := post) l1 b1 e2
        have f2 : askOf (ctx pre s post) (pre.length + nextOf s p) = askOf s (nextOf s p) := by unfold askOf; rw [c4]
        have h2' : isAsk (ctx pre s post) (pre.length + nextOf s p) := by unfold isAsk; rw [f2, c3]; exact h2
        rw [if_pos (show isAsk (ctx pre s post) ((lang (ctx pre s post)).next (pre.length + p)) by rw [n1]; exact h2'), adv_lazy]
        split at h
        · cases h
        · rename_i p2 hb2
          obtain ⟨rfl, b2⟩ := adv_look hb2
          have l2 : nextOf s (nextOf s p) ≤ s.length := (next_le l1 b1).2
          have n2 : (lang (ctx pre s post)).next (pre.length + nextOf s p) = pre.length + nextOf s (nextOf s p) := ctx_next l1 b1 e2
          simp only [n2, f1, f2]
          split at h
          · cases h
          · rename_i m hv
            replace hv : testVal s (fieldOf s p) (askOf s (nextOf s p)) (nextOf s (nextOf s p)) = some m := hv
            have e3 : (lex s (nextOf s (nextOf s p))).kind ≠ .ended := by
              intro he
              unfold testVal at hv
              rw [he] at hv
              simp at hv
            rw [testVal_ctx l2 b2 hv]
            simp only [adv_lazy]
            split at h
            · cases h
            · rename_i p3 hb3
              obtain ⟨rfl, b3⟩ := adv_look hb3
              cases h
              have l3 : nextOf s (nextOf s (nextOf s p)) ≤ s.length := (next_le l2 b2).2
              have n3 : (lang (ctx pre s post)).next (pre.length + nextOf s (nextOf s p)) = pre.length + nextOf s (nextOf s (nextOf s p)) := ctx_next l2 b2 e3
              rw [n3]
              exact ⟨rfl, l3, b3⟩
      · cases h
  · cases h
/-- what is read of a text alone, is read of it in brackets: or nothing is -/
theorem reads_ctx (pre post : List UInt8) {nt : NT} {d p : Nat} {r : Res} (h : Reads (lang s) true nt d p r) : ∀ {n q}, r = .ok n q → p ≤ s.length → (lex s p).kind ≠ .bad →
    (q ≤ s.length ∧ (lex s q).kind ≠ .bad) ∧ ∀ {D r'}, Reads (lang (ctx pre s post)) false nt D (pre.length + p) r' → r' = .ok n (pre.length + q) ∨ ∃ a, r' = .fail a := by
  have W : ∀ {p} {w : List UInt8}, p ≤ s.length → (lex s p).kind ≠ .bad → w ≠ wClose → (isWord (ctx pre s post) (pre.length + p) w ↔ isWord s p w) := fun hp hb hw => ctx_word hp hb hw
  have wn : wNot ≠ wClose := by decide
  have wo : wOpen ≠ wClose := by decide
  have wa : wAnd ≠ wClose := by decide
  have wr : wOr ≠ wClose := by decide
  have N : ∀ {p w}, p ≤ s.length → (lex s p).kind ≠ .bad → isWord s p w → (lang (ctx pre s post)).next (pre.length + p) = pre.length + nextOf s p := fun hp hb hw => ctx_next hp hb (word_ne hw)
  induction h with
  | @test d p h1 h2 =>
    intro n q hr hp hb
    obtain ⟨c1, c2, c3⟩ := test_ctx pre post hp hb hr
    refine ⟨⟨c2, c3⟩, fun {D r'} h => ?_⟩
    cases h with
    | test => exact .inl c1
    | deep h => rcases h with h | h
                · exact (h1 ((W hp hb wn).1 h)).elim
                · exact (h2 ((W hp hb wo).1 h)).elim
    | notBad h => exact (h1 ((W hp hb wn).1 h)).elim
    | notOk h => exact (h1 ((W hp hb wn).1 h)).elim
    | notFail h => exact (h1 ((W hp hb wn).1 h)).elim
    | openBad _ h => exact (h2 ((W hp hb wo).1 h)).elim
    | openFail _ h => exact (h2 ((W hp hb wo).1 h)).elim
    | openNot _ h => exact (h2 ((W hp hb wo).1 h)).elim
    | openClose _ h => exact (h2 ((W hp hb wo).1 h)).elim
    | openOk _ h => exact (h2 ((W hp hb wo).1 h)).elim
  | deep => intro n q hr; cases hr
  | notBad => intro n q hr; cases hr
  | notFail => intro n q hr; cases hr
  | openBad => intro n q hr; cases hr
  | openFail => intro n q hr; cases hr
  | openNot => intro n q hr; cases hr
  | openClose => intro n q hr; cases hr
  | allFail => intro n q hr; cases hr
  | allBad => intro n q hr; cases hr
  | allNo => intro n q hr; cases hr
  | anyFail => intro n q hr; cases hr
  | anyBad => intro n q hr; cases hr
  | anyNo => intro n q hr; cases hr
  | @notOk d p p1 p2 m hw hd ha hr ih =>
    intro n q hr hp hb
    cases hr
    obtain ⟨rfl, b1⟩ := adv_look ha
    obtain ⟨c1, c2⟩ := ih rfl (next_le hp hb).2 b1
    refine ⟨c1, fun {D r'} h => ?_⟩
    cases h with
    | test h => exact (h ((W hp hb wn).2 hw)).elim
    | deep => exact .inr ⟨_, rfl⟩
    | notBad _ _ ha => exact .inr ⟨_, rfl⟩
    | notOk _ _ ha' hr' =>
      rw [adv_lazy, N hp hb hw] at ha'
      cases ha'
      rcases c2 hr' with h | ⟨a, h⟩
      · cases h; exact .inl rfl
      · cases h
    | notFail => exact .inr ⟨_, rfl⟩
    | openBad h => exact (h ((W hp hb wn).2 hw)).elim
    | openFail h => exact (h ((W hp hb wn).2 hw)).elim
    | openNot h => exact (h ((W hp hb wn).2 hw)).elim
    | openClose h => exact (h ((W hp hb wn).2 hw)).elim
    | openOk h => exact (h ((W hp hb wn).2 hw)).elim
  | @openOk d p p1 p2 p3 m h0 hw hd ha hr hc hx ih =>
    intro n q hr hp hb
    cases hr
    obtain ⟨rfl, b1⟩ := adv_look ha
    obtain ⟨⟨c1, c1'⟩, c2⟩ := ih rfl (next_le hp hb).2 b1
    obtain ⟨rfl, b3⟩ := adv_look hx
    refine ⟨⟨(next_le c1 c1').2, b3⟩, fun {D r'} h => ?_⟩
    cases h with
    | test _ h => exact (h ((W hp hb wo).2 hw)).elim
    | deep => exact .inr ⟨_, rfl⟩
    | notBad h => exact (h0 ((W hp hb wn).1 h)).elim
    | notOk h => exact (h0 ((W hp hb wn).1 h)).elim
    | notFail h => exact (h0 ((W hp hb wn).1 h)).elim
    | openBad => exact .inr ⟨_, rfl⟩
    | openFail => exact .inr ⟨_, rfl⟩
    | openNot => exact .inr ⟨_, rfl⟩
    | openClose => exact .inr ⟨_, rfl⟩
    | openOk _ _ _ ha' hr' hc' hx' =>
      rw [adv_lazy, N hp hb hw] at ha'
      cases ha'
      rcases c2 hr' with h | ⟨a, h⟩
      · cases h
        rw [adv_lazy, N c1 c1' hc] at hx'
        cases hx'
        exact .inl rfl
      · cases h
  | @allOk d p p1 m r hr hm ih1 ih2 =>
    intro n q hr hp hb
    subst hr
    obtain ⟨⟨c1, c1'⟩, c2⟩ := ih1 rfl hp hb
    obtain ⟨c3, c4⟩ := ih2 rfl c1 c1'
    refine ⟨c3, fun {D r'} h => ?_⟩
    cases h with
    | allFail => exact .inr ⟨_, rfl⟩
    | allOk h1 h2 =>
      rcases c2 h1 with h | ⟨a, h⟩
      · cases h; exact c4 h2
      · cases h
  | @allEnd d p m hw =>
    intro n q hr hp hb
    cases hr
    refine ⟨⟨hp, hb⟩, fun {D r'} h => ?_⟩
    cases h with
    | allEnd => exact .inl rfl
    | allBad h => exact (hw ((W hp hb wa).1 h)).elim
    | allNo h => exact (hw ((W hp hb wa).1 h)).elim
    | allMore h => exact (hw ((W hp hb wa).1 h)).elim
  | @allMore d p p1 p2 m m2 r hw ha hr hm ih1 ih2 =>
    intro n q hr hp hb
    subst hr
    obtain ⟨rfl, b1⟩ := adv_look ha
    obtain ⟨⟨c1, c1'⟩, c2⟩ := ih1 rfl (next_le hp hb).2 b1
    obtain ⟨c3, c4⟩ := ih2 rfl c1 c1'
    refine ⟨c3, fun {D r'} h => ?_⟩
    cases h with
    | allEnd h => exact (h ((W hp hb wa).2 hw)).elim
    | allBad => exact .inr ⟨_, rfl⟩
    | allNo => exact .inr ⟨_, rfl⟩
    | allMore _ ha' h1 h2 =>
      rw [adv_lazy, N hp hb hw] at ha'
      cases ha'
      rcases c2 h1 with h | ⟨a, h⟩
      · cases h; exact c4 h2
      · cases h
  | @anyOk d p p1 m r hr hm ih1 ih2 =>
    intro n q hr hp hb
    subst hr
    obtain ⟨⟨c1, c1'⟩, c2⟩ := ih1 rfl hp hb
    obtain ⟨c3, c4⟩ := ih2 rfl c1 c1'
    refine ⟨c3, fun {D r'} h => ?_⟩
    cases h with
    | anyFail => exact .inr ⟨_, rfl⟩
    | anyOk h1 h2 =>
      rcases c2 h1 with h | ⟨a, h⟩
      · cases h; exact c4 h2
      · cases h
  | @anyEnd d p m hw =>
    intro n q hr hp hb
    cases hr
    refine ⟨⟨hp, hb⟩, fun {D r'} h => ?_⟩
    cases h with
    | anyEnd => exact .inl rfl
    | anyBad h => exact (hw ((W hp hb wr).1 h)).elim
    | anyNo h => exact (hw ((W hp hb wr).1 h)).elim
    | anyMore h => exact (hw ((W hp hb wr).1 h)).elim
  | @anyMore d p p1 p2 m m2 r hw ha hr hm ih1 ih2 =>
    intro n q hr hp hb
    subst hr
    obtain ⟨rfl, b1⟩ := adv_look ha
    obtain ⟨⟨c1, c1'⟩, c2⟩ := ih1 rfl (next_le hp hb).2 b1
    obtain ⟨c3, c4⟩ := ih2 rfl c1 c1'
    refine ⟨c3, fun {D r'} h => ?_⟩
    cases h with
    | anyEnd h => exact (h ((W hp hb wr).2 hw)).elim
    | anyBad => exact .inr ⟨_, rfl⟩
    | anyNo => exact .inr ⟨_, rfl⟩
    | anyMore _ ha' h1 h2 =>
      rw [adv_lazy, N hp hb hw] at ha'
      cases ha'
      rcases c2 h1 with h | ⟨a, h⟩
      · cases h; exact c4 h2
      · cases h
end

/-! ## brackets -/
/-- the token of a rest that is known -/
theorem lex_at {U pre l : List UInt8} (hU : U = pre ++ l) : lex U pre.length = ⟨(lexRest (l.drop (runLen isBlank l))).1, pre.length + runLen isBlank l, pre.length + runLen isBlank l + (lexRest (l.drop (runLen isBlank l))).2⟩ ∧ textOf U (lex U pre.length) = (l.drop (runLen isBlank l)).take (lexRest (l.drop (runLen isBlank l))).2 := by
  subst hU
  have h1 : (pre ++ l).drop pre.length = l := List.drop_left
  have h2 : startOf (pre ++ l) pre.length = pre.length + runLen isBlank l := by unfold startOf; rw [h1]
  have h3 : (pre ++ l).drop (pre.length + runLen isBlank l) = l.drop (runLen isBlank l) := by rw [← List.drop_drop, h1]
  have h4 : lex (pre ++ l) pre.length = ⟨(lexRest (l.drop (runLen isBlank l))).1, pre.length + runLen isBlank l, pre.length + runLen isBlank l + (lexRest (l.drop (runLen isBlank l))).2⟩ := by
    unfold lex; rw [h2, h3]
  refine ⟨h4, ?_⟩
  rw [h4]
  unfold textOf
  simp only []
  rw [h3, show pre.length + runLen isBlank l + (lexRest (l.drop (runLen isBlank l))).2 - (pre.length + runLen isBlank l) = (lexRest (l.drop (runLen isBlank l))).2 by omega]
/-- a text that is a filter -/
def IsF (s : List UInt8) (f : Nd) : Prop := ∃ q, (lex s 0).kind ≠ .bad ∧ Reads (lang s) true .any 0 0 (.ok f q) ∧ (lex s q).kind = .ended
theorem isF_of {s : List UInt8} {f : Nd} (h : ParseP s (.ok (some f))) : IsF s f := by
  cases h with
  | ok h hb he hr hp => exact ⟨_, hb, hr, hp⟩
/-- a word or mark stands there, and what stands behind it begins there -/
structure Stands (U : List UInt8) (p : Nat) (w : List UInt8) (q : Nat) : Prop where
  word : isWord U p w
  next : nextOf U p = q
theorem Stands.not {U : List UInt8} {p q : Nat} {w v : List UInt8} (h : Stands U p w q) (hv : w ≠ v) : ¬ isWord U p v := fun k => hv (h.word.2.symm.trans k.2)
theorem stands_mk {U pre l : List UInt8} (hU : U = pre ++ l) {w : List UInt8} {k : TK} {n j : Nat} (hj : runLen isBlank l = j) (hl : lexRest (l.drop j) = (k, n)) (hk : k = .word ∨ k = .mark) (hw : (l.drop j).take n = w) : Stands U pre.length w (pre.length + j + n) := by
  subst hj
  obtain ⟨h1, h2⟩ := lex_at hU
  rw [hl] at h1 h2
  exact ⟨⟨by rw [h1]; exact hk, by rw [h2]; exact hw⟩, by unfold nextOf; rw [h1]⟩
theorem one_bracket {U pre s post : List UInt8} {f : Nd} (hF : IsF s f) (hU : U = ctx pre s post) {d p q : Nat} {n : Nd} (hO : Stands U p wOpen pre.length) (h : Reads (lang U) false .one d p (.ok n q)) : n = f ∧ q = pre.length + s.length + 1 := by
  subst hU
  obtain ⟨q0, hb, hr, he⟩ := hF
  obtain ⟨⟨c1, c2⟩, c3⟩ := reads_ctx pre post hr rfl (Nat.zero_le _) hb
  have hn : ¬ isWord (ctx pre s post) p wNot := hO.not (by decide)
  obtain ⟨m, x, hx, e1⟩ : ∃ m x, Reads (lang (ctx pre s post)) false .one d p x ∧ x = .ok m q ∧ m = n := ⟨n, _, h, rfl, rfl⟩
  obtain ⟨e1, rfl⟩ := e1
  cases hx with
  | test _ h => exact (h hO.word).elim
  | deep => cases e1
  | notBad h => exact (hn h).elim
  | notOk h => exact (hn h).elim
  | notFail h => exact (hn h).elim
  | openBad => cases e1
  | openFail => cases e1
  | openNot => cases e1
  | openClose => cases e1
  | openOk _ _ _ ha hr' hc hx =>
    cases e1
    rw [adv_lazy] at ha hx
    cases ha
    cases hx
    have hn1 : (lang (ctx pre s post)).next p = pre.length + 0 := hO.next
    rw [hn1] at hr'
    rcases c3 hr' with h | ⟨a, h⟩
    · cases h
      refine ⟨rfl, ?_⟩
      show nextOf (ctx pre s post) (pre.length + q0) = _
      unfold nextOf
      rw [(ctx_end (pre := pre) (post := post) c1 he).1]
    · cases h
theorem one_not {U : List UInt8} {d p q p1 : Nat} {n : Nd} (hN : Stands U p wNot p1) (h : Reads (lang U) false .one d p (.ok n q)) : ∃ m, n = .not m ∧ Reads (lang U) false .one (d + 1) p1 (.ok m q) := by
  obtain ⟨x, hx, e1⟩ : ∃ x, Reads (lang U) false .one d p x ∧ x = .ok n q := ⟨_, h, rfl⟩
  cases hx with
  | test h => exact (h hN.word).elim
  | deep => cases e1
  | notBad h => cases e1
  | notOk _ _ ha hr =>
    cases e1
    rw [adv_lazy] at ha
    cases ha
    have : (lang U).next p = p1 := hN.next
    rw [this] at hr
    exact ⟨_, rfl, hr⟩
  | notFail h => cases e1
  | openBad h => cases e1
  | openFail h => cases e1
  | openNot h => cases e1
  | openClose h => cases e1
  | openOk h => exact (h hN.word).elim
theorem all_one {U : List UInt8} {d p q : Nat} {n : Nd} (h : Reads (lang U) false .all d p (.ok n q)) : ∃ m p1, Reads (lang U) false .one d p (.ok m p1) ∧ Reads (lang U) false (.allMore m) d p1 (.ok n q) := by
  cases h with
  | allOk h1 h2 => exact ⟨_, _, h1, h2⟩
theorem any_all {U : List UInt8} {d p q : Nat} {n : Nd} (h : Reads (lang U) false .any d p (.ok n q)) : ∃ m p1, Reads (lang U) false .all d p (.ok m p1) ∧ Reads (lang U) false (.anyMore m) d p1 (.ok n q) := by
  cases h with
  | anyOk h1 h2 => exact ⟨_, _, h1, h2⟩
theorem all_more {U : List UInt8} {d p q p1 : Nat} {n m : Nd} (hA : Stands U p wAnd p1) (h : Reads (lang U) false (.allMore m) d p (.ok n q)) : ∃ m' p2, Reads (lang U) false .one d p1 (.ok m' p2) ∧ Reads (lang U) false (.allMore (.all m m')) d p2 (.ok n q) := by
  have e : (lang U).next p = p1 := hA.next
  cases h with
  | allEnd h => exact (h hA.word).elim
  | allMore _ ha h1 h2 => rw [adv_lazy] at ha; cases ha; rw [e] at h1; exact ⟨_, _, h1, h2⟩
theorem any_more {U : List UInt8} {d p q p1 : Nat} {n m : Nd} (hA : Stands U p wOr p1) (h : Reads (lang U) false (.anyMore m) d p (.ok n q)) : ∃ m' p2, Reads (lang U) false .all d p1 (.ok m' p2) ∧ Reads (lang U) false (.anyMore (.any m m')) d p2 (.ok n q) := by
  have e : (lang U).next p = p1 := hA.next
  cases h with
  | anyEnd h => exact (h hA.word).elim
  | anyMore _ ha h1 h2 => rw [adv_lazy] at ha; cases ha; rw [e] at h1; exact ⟨_, _, h1, h2⟩
theorem all_end {U : List UInt8} {d p q : Nat} {n m : Nd} (hA : ¬ isWord U p wAnd) (h : Reads (lang U) false (.allMore m) d p (.ok n q)) : n = m ∧ q = p := by
  cases h with
  | allEnd h => exact ⟨rfl, rfl⟩
  | allMore h => exact (hA h).elim
theorem any_end {U : List UInt8} {d p q : Nat} {n m : Nd} (hA : ¬ isWord U p wOr) (h : Reads (lang U) false (.anyMore m) d p (.ok n q)) : n = m ∧ q = p := by
  cases h with
  | anyEnd h => exact ⟨rfl, rfl⟩
  | anyMore h => exact (hA h).elim
theorem ended_word {U : List UInt8} {w : List UInt8} : ¬ isWord U U.length w := by
  intro h
  have := (lex_at (U := U) (pre := U) (l := []) (by simp)).1
  rcases h.1 with h | h <;> (rw [this] at h; cases h)
/-- the four texts of FilterLogic -/
def tAnd (s t : List UInt8) : List UInt8 := [40] ++ s ++ [41, 32, 97, 110, 100, 32, 40] ++ t ++ [41]
def tOr (s t : List UInt8) : List UInt8 := [40] ++ s ++ [41, 32, 111, 114, 32, 40] ++ t ++ [41]
def tNotOr (s t : List UInt8) : List UInt8 := [110, 111, 116, 32, 40] ++ s ++ [41, 32, 111, 114, 32, 110, 111, 116, 32, 40] ++ t ++ [41]
def tNotAnd (s t : List UInt8) : List UInt8 := [110, 111, 116, 32, 40, 40] ++ s ++ [41, 32, 97, 110, 100, 32, 40] ++ t ++ [41, 41]
section
variable {s t : List UInt8} {f g : Nd} (hf : IsF s f) (hg : IsF t g)
include hf hg
theorem reads_and {h : Nd} {q : Nat} (hr : Reads (lang (tAnd s t)) false .any 0 0 (.ok h q)) : h = .all f g := by
  obtain ⟨m1, p1, h1, h2⟩ := any_all hr
  obtain ⟨m2, p2, h3, h4⟩ := all_one h1
  have o1 : Stands (tAnd s t) 0 wOpen ([40] : List UInt8).length := stands_mk (pre := []) (l := tAnd s t) (by simp) (w := wOpen) (k := .mark) (n := 1) (j := 0) rfl rfl (.inr rfl) rfl
  obtain ⟨rfl, rfl⟩ := one_bracket hf (pre := [40]) (post := [32, 97, 110, 100, 32, 40] ++ t ++ [41]) (by simp [tAnd, ctx]) o1 h3
  have a1 : Stands (tAnd s t) ([40] ++ s ++ [41]).length wAnd (([40] ++ s ++ [41]).length + 1 + 3) := stands_mk (pre := [40] ++ s ++ [41]) (l := [32, 97, 110, 100, 32, 40] ++ t ++ [41]) (by simp [tAnd]) (w := wAnd) (k := .word) (n := 3) (j := 1) rfl rfl (.inl rfl) rfl
  have e1 : ([40] ++ s ++ [41] : List UInt8).length = ([40] : List UInt8).length + s.length + 1 := by (try simp only [List.length_append, List.length_cons, List.length_nil]); (try omega)
  rw [e1] at a1
  obtain ⟨m3, p3, h5, h6⟩ := all_more a1 h4
  have o2 : Stands (tAnd s t) ([40] ++ s ++ [41, 32, 97, 110, 100]).length wOpen (([40] ++ s ++ [41, 32, 97, 110, 100]).length + 1 + 1) := stands_mk (pre := [40] ++ s ++ [41, 32, 97, 110, 100]) (l := [32, 40] ++ t ++ [41]) (by simp [tAnd]) (w := wOpen) (k := .mark) (n := 1) (j := 1) rfl rfl (.inr rfl) rfl
  have e2 : ([40] ++ s ++ [41, 32, 97, 110, 100] : List UInt8).length = ([40] : List UInt8).length + s.length + 1 + 1 + 3 := by (try simp only [List.length_append, List.length_cons, List.length_nil]); (try omega)
  have e3 : ([40] : List UInt8).length + s.length + 1 + 1 + 3 + 1 + 1 = ([40] ++ s ++ [41, 32, 97, 110, 100, 32, 40] : List UInt8).length := by (try simp only [List.length_append, List.length_cons, List.length_nil]); (try omega)
  rw [e2, e3] at o2
  obtain ⟨rfl, rfl⟩ := one_bracket hg (pre := [40] ++ s ++ [41, 32, 97, 110, 100, 32, 40]) (post := []) (by simp [tAnd, ctx]) o2 h5
  have e4 : ([40] ++ s ++ [41, 32, 97, 110, 100, 32, 40] : List UInt8).length + t.length + 1 = (tAnd s t).length := by (try simp only [tAnd, List.length_append, List.length_cons, List.length_nil]); (try omega)
  rw [e4] at h6
  obtain ⟨rfl, rfl⟩ := all_end ended_word h6
  obtain ⟨rfl, rfl⟩ := any_end ended_word h2
  rfl
theorem reads_or {h : Nd} {q : Nat} (hr : Reads (lang (tOr s t)) false .any 0 0 (.ok h q)) : h = .any f g := by
  obtain ⟨m1, p1, h1, h2⟩ := any_all hr
  obtain ⟨m2, p2, h3, h4⟩ := all_one h1
  have o1 : Stands (tOr s t) 0 wOpen ([40] : List UInt8).length := stands_mk (pre := []) (l := tOr s t) (by simp) (w := wOpen) (k := .mark) (n := 1) (j := 0) rfl rfl (.inr rfl) rfl
  obtain ⟨rfl, rfl⟩ := one_bracket hf (pre := [40]) (post := [32, 111, 114, 32, 40] ++ t ++ [41]) (by simp [tOr, ctx]) o1 h3
  have a1 : Stands (tOr s t) ([40] ++ s ++ [41]).length wOr (([40] ++ s ++ [41]).length + 1 + 2) := stands_mk (pre := [40] ++ s ++ [41]) (l := [32, 111, 114, 32, 40] ++ t ++ [41]) (by simp [tOr]) (w := wOr) (k := .word) (n := 2) (j := 1) rfl rfl (.inl rfl) rfl
  have e1 : ([40] ++ s ++ [41] : List UInt8).length = ([40] : List UInt8).length + s.length + 1 := by (try simp only [List.length_append, List.length_cons, List.length_nil]); (try omega)
  rw [e1] at a1
  obtain ⟨rfl, rfl⟩ := all_end (a1.not (by decide)) h4
  obtain ⟨m3, p3, h5, h6⟩ := any_more a1 h2
  obtain ⟨m4, p4, h7, h8⟩ := all_one h5
  have o2 : Stands (tOr s t) ([40] ++ s ++ [41, 32, 111, 114]).length wOpen (([40] ++ s ++ [41, 32, 111, 114]).length + 1 + 1) := stands_mk (pre := [40] ++ s ++ [41, 32, 111, 114]) (l := [32, 40] ++ t ++ [41]) (by simp [tOr]) (w := wOpen) (k := .mark) (n := 1) (j := 1) rfl rfl (.inr rfl) rfl
  have e2 : ([40] ++ s ++ [41, 32, 111, 114] : List UInt8).length = ([40] : List UInt8).length + s.length + 1 + 1 + 2 := by (try simp only [List.length_append, List.length_cons, List.length_nil]); (try omega)
  have e3 : ([40] : List UInt8).length + s.length + 1 + 1 + 2 + 1 + 1 = ([40] ++ s ++ [41, 32, 111, 114, 32, 40] : List UInt8).length := by (try simp only [List.length_append, List.length_cons, List.length_nil]); (try omega)
  rw [e2, e3] at o2
  obtain ⟨rfl, rfl⟩ := one_bracket hg (pre := [40] ++ s ++ [41, 32, 111, 114, 32, 40]) (post := []) (by simp [tOr, ctx]) o2 h7
  have e4 : ([40] ++ s ++ [41, 32, 111, 114, 32, 40] : List UInt8).length + t.length + 1 = (tOr s t).length := by (try simp only [tOr, List.length_append, List.length_cons, List.length_nil]); (try omega)
  rw [e4] at h8
  obtain ⟨rfl, rfl⟩ := all_end ended_word h8
  obtain ⟨rfl, rfl⟩ := any_end ended_word h6
  rfl
theorem reads_not_or {h : Nd} {q : Nat} (hr : Reads (lang (tNotOr s t)) false .any 0 0 (.ok h q)) : h = .any (.not f) (.not g) := by
  obtain ⟨m1, p1, h1, h2⟩ := any_all hr
  obtain ⟨m2, p2, h3, h4⟩ := all_one h1
  have o0 : Stands (tNotOr s t) 0 wNot ([110, 111, 116] : List UInt8).length := stands_mk (pre := []) (l := tNotOr s t) (by simp) (w := wNot) (k := .word) (n := 3) (j := 0) rfl rfl (.inl rfl) rfl
  obtain ⟨m3, rfl, h5⟩ := one_not o0 h3
  have o1 : Stands (tNotOr s t) ([110, 111, 116] : List UInt8).length wOpen ([110, 111, 116, 32, 40] : List UInt8).length := stands_mk (pre := [110, 111, 116]) (l := [32, 40] ++ s ++ [41, 32, 111, 114, 32, 110, 111, 116, 32, 40] ++ t ++ [41]) (by simp [tNotOr]) (w := wOpen) (k := .mark) (n := 1) (j := 1) rfl rfl (.inr rfl) rfl
  obtain ⟨rfl, rfl⟩ := one_bracket hf (pre := [110, 111, 116, 32, 40]) (post := [32, 111, 114, 32, 110, 111, 116, 32, 40] ++ t ++ [41]) (by simp [tNotOr, ctx]) o1 h5
  have a1 : Stands (tNotOr s t) ([110, 111, 116, 32, 40] ++ s ++ [41]).length wOr (([110, 111, 116, 32, 40] ++ s ++ [41]).length + 1 + 2) := stands_mk (pre := [110, 111, 116, 32, 40] ++ s ++ [41]) (l := [32, 111, 114, 32, 110, 111, 116, 32, 40] ++ t ++ [41]) (by simp [tNotOr]) (w := wOr) (k := .word) (n := 2) (j := 1) rfl rfl (.inl rfl) rfl
  have e1 : ([110, 111, 116, 32, 40] ++ s ++ [41] : List UInt8).length = ([110, 111, 116, 32, 40] : List UInt8).length + s.length + 1 := by (try simp only [List.length_append, List.length_cons, List.length_nil]); (try omega)
  rw [e1] at a1
  obtain ⟨rfl, rfl⟩ := all_end (a1.not (by decide)) h4
  obtain ⟨m4, p4, h6, h7⟩ := any_more a1 h2
  obtain ⟨m5, p5, h8, h9⟩ := all_one h6
  have o2 : Stands (tNotOr s t) ([110, 111, 116, 32, 40] ++ s ++ [41, 32, 111, 114]).length wNot (([110, 111, 116, 32, 40] ++ s ++ [41, 32, 111, 114]).length + 1 + 3) := stands_mk (pre := [110, 111, 116, 32, 40] ++ s ++ [41, 32, 111, 114]) (l := [32, 110, 111, 116, 32, 40] ++ t ++ [41]) (by simp [tNotOr]) (w := wNot) (k := .word) (n := 3) (j := 1) rfl rfl (.inl rfl) rfl
  have e2 : ([110, 111, 116, 32, 40] ++ s ++ [41, 32, 111, 114] : List UInt8).length = ([110, 111, 116, 32, 40] : List UInt8).length + s.length + 1 + 1 + 2 := by (try simp only [List.length_append, List.length_cons, List.length_nil]); (try omega)
  have e3 : ([110, 111, 116, 32, 40] : List UInt8).length + s.length + 1 + 1 + 2 + 1 + 3 = ([110, 111, 116, 32, 40] ++ s ++ [41, 32, 111, 114, 32, 110, 111, 116] : List UInt8).length := by (try simp only [List.length_append, List.length_cons, List.length_nil]); (try omega)
  rw [e2, e3] at o2
  obtain ⟨m6, rfl, h10⟩ := one_not o2 h8
  have o3 : Stands (tNotOr s t) ([110, 111, 116, 32, 40] ++ s ++ [41, 32, 111, 114, 32, 110, 111, 116]).length wOpen (([110, 111, 116, 32, 40] ++ s ++ [41, 32, 111, 114, 32, 110, 111, 116]).length + 1 + 1) := stands_mk (pre := [110, 111, 116, 32, 40] ++ s ++ [41, 32, 111, 114, 32, 110, 111, 116]) (l := [32, 40] ++ t ++ [41]) (by simp [tNotOr]) (w := wOpen) (k := .mark) (n := 1) (j := 1) rfl rfl (.inr rfl) rfl
  have e4 : ([110, 111, 116, 32, 40] ++ s ++ [41, 32, 111, 114, 32, 110, 111, 116] : List UInt8).length + 1 + 1 = ([110, 111, 116, 32, 40] ++ s ++ [41, 32, 111, 114, 32, 110, 111, 116, 32, 40] : List UInt8).length := by (try simp only [List.length_append, List.length_cons, List.length_nil]); (try omega)
  rw [e4] at o3
  obtain ⟨rfl, rfl⟩ := one_bracket hg (pre := [110, 111, 116, 32, 40] ++ s ++ [41, 32, 111, 114, 32, 110, 111, 116, 32, 40]) (post := []) (by simp [tNotOr, ctx]) o3 h10
  have e5 : ([110, 111, 116, 32, 40] ++ s ++ [41, 32, 111, 114, 32, 110, 111, 116, 32, 40] : List UInt8).length + t.length + 1 = (tNotOr s t).length := by (try simp only [tNotOr, List.length_append, List.length_cons, List.length_nil]); (try omega)
  rw [e5] at h9
  obtain ⟨rfl, rfl⟩ := all_end ended_word h9
  obtain ⟨rfl, rfl⟩ := any_end ended_word h7
  rfl
theorem reads_not_and {h : Nd} {q : Nat} (hr : Reads (lang (tNotAnd s t)) false .any 0 0 (.ok h q)) : h = .not (.all f g) := by
  obtain ⟨m1, p1, h1, h2⟩ := any_all hr
  obtain ⟨m2, p2, h3, h4⟩ := all_one h1
  have o0 : Stands (tNotAnd s t) 0 wNot ([110, 111, 116] : List UInt8).length := stands_mk (pre := []) (l := tNotAnd s t) (by simp) (w := wNot) (k := .word) (n := 3) (j := 0) rfl rfl (.inl rfl) rfl
  obtain ⟨m3, rfl, h5⟩ := one_not o0 h3
  have o1 : Stands (tNotAnd s t) ([110, 111, 116] : List UInt8).length wOpen ([110, 111, 116, 32, 40] : List UInt8).length := stands_mk (pre := [110, 111, 116]) (l := [32, 40, 40] ++ s ++ [41, 32, 97, 110, 100, 32, 40] ++ t ++ [41, 41]) (by simp [tNotAnd]) (w := wOpen) (k := .mark) (n := 1) (j := 1) rfl rfl (.inr rfl) rfl
  have key : ∀ {d x}, Reads (lang (tNotAnd s t)) false .any d ([110, 111, 116, 32, 40] : List UInt8).length x → ∀ {n q}, x = .ok n q → n = .all f g ∧ q = ([110, 111, 116, 32, 40, 40] ++ s ++ [41, 32, 97, 110, 100, 32, 40] : List UInt8).length + t.length + 1 := by
    intro d x hx n q hxe
    subst hxe
    obtain ⟨m1, p1, h1, h2⟩ := any_all hx
    obtain ⟨m2, p2, h3, h4⟩ := all_one h1
    have o2 : Stands (tNotAnd s t) ([110, 111, 116, 32, 40] : List UInt8).length wOpen ([110, 111, 116, 32, 40, 40] : List UInt8).length := stands_mk (pre := [110, 111, 116, 32, 40]) (l := [40] ++ s ++ [41, 32, 97, 110, 100, 32, 40] ++ t ++ [41, 41]) (by simp [tNotAnd]) (w := wOpen) (k := .mark) (n := 1) (j := 0) rfl rfl (.inr rfl) rfl
    obtain ⟨rfl, rfl⟩ := one_bracket hf (pre := [110, 111, 116, 32, 40, 40]) (post := [32, 97, 110, 100, 32, 40] ++ t ++ [41, 41]) (by simp [tNotAnd, ctx]) o2 h3
    have a1 : Stands (tNotAnd s t) ([110, 111, 116, 32, 40, 40] ++ s ++ [41]).length wAnd (([110, 111, 116, 32, 40, 40] ++ s ++ [41]).length + 1 + 3) := stands_mk (pre := [110, 111, 116, 32, 40, 40] ++ s ++ [41]) (l := [32, 97, 110, 100, 32, 40] ++ t ++ [41, 41]) (by simp [tNotAnd]) (w := wAnd) (k := .word) (n := 3) (j := 1) rfl rfl (.inl rfl) rfl
    have e1 : ([110, 111, 116, 32, 40, 40] ++ s ++ [41] : List UInt8).length = ([110, 111, 116, 32, 40, 40] : List UInt8).length + s.length + 1 := by (try simp only [List.length_append, List.length_cons, List.length_nil]); (try omega)
    rw [e1] at a1
    obtain ⟨m3, p3, h5, h6⟩ := all_more a1 h4
    have o2 : Stands (tNotAnd s t) ([110, 111, 116, 32, 40, 40] ++ s ++ [41, 32, 97, 110, 100]).length wOpen (([110, 111, 116, 32, 40, 40] ++ s ++ [41, 32, 97, 110, 100]).length + 1 + 1) := stands_mk (pre := [110, 111, 116, 32, 40, 40] ++ s ++ [41, 32, 97, 110, 100]) (l := [32, 40] ++ t ++ [41, 41]) (by simp [tNotAnd]) (w := wOpen) (k := .mark) (n := 1) (j := 1) rfl rfl (.inr rfl) rfl
    have e2 : ([110, 111, 116, 32, 40, 40] ++ s ++ [41, 32, 97, 110, 100] : List UInt8).length = ([110, 111, 116, 32, 40, 40] : List UInt8).length + s.length + 1 + 1 + 3 := by (try simp only [List.length_append, List.length_cons, List.length_nil]); (try omega)
    have e3 : ([110, 111, 116, 32, 40, 40] : List UInt8).length + s.length + 1 + 1 + 3 + 1 + 1 = ([110, 111, 116, 32, 40, 40] ++ s ++ [41, 32, 97, 110, 100, 32, 40] : List UInt8).length := by (try simp only [List.length_append, List.length_cons, List.length_nil]); (try omega)
    rw [e2, e3] at o2
    obtain ⟨rfl, rfl⟩ := one_bracket hg (pre := [110, 111, 116, 32, 40, 40] ++ s ++ [41, 32, 97, 110, 100, 32, 40]) (post := [41]) (by simp [tNotAnd, ctx]) o2 h5
    have c1 : Stands (tNotAnd s t) ([110, 111, 116, 32, 40, 40] ++ s ++ [41, 32, 97, 110, 100, 32, 40] ++ t ++ [41]).length wClose (([110, 111, 116, 32, 40, 40] ++ s ++ [41, 32, 97, 110, 100, 32, 40] ++ t ++ [41]).length + 0 + 1) := stands_mk (pre := [110, 111, 116, 32, 40, 40] ++ s ++ [41, 32, 97, 110, 100, 32, 40] ++ t ++ [41]) (l := [41]) (by simp [tNotAnd]) (w := wClose) (k := .mark) (n := 1) (j := 0) rfl rfl (.inr rfl) rfl
    have e4 : ([110, 111, 116, 32, 40, 40] ++ s ++ [41, 32, 97, 110, 100, 32, 40] ++ t ++ [41] : List UInt8).length = ([110, 111, 116, 32, 40, 40] ++ s ++ [41, 32, 97, 110, 100, 32, 40] : List UInt8).length + t.length + 1 := by (try simp only [List.length_append, List.length_cons, List.length_nil]); (try omega)
    rw [e4] at c1
    obtain ⟨rfl, rfl⟩ := all_end (c1.not (by decide)) h6
    obtain ⟨rfl, rfl⟩ := any_end (c1.not (by decide)) h2
    exact ⟨rfl, rfl⟩
  have hn : ¬ isWord (tNotAnd s t) ([110, 111, 116] : List UInt8).length wNot := o1.not (by decide)
  obtain ⟨x, hx, e1⟩ : ∃ x, Reads (lang (tNotAnd s t)) false .one (0 + 1) ([110, 111, 116] : List UInt8).length x ∧ x = .ok m3 p2 := ⟨_, h5, rfl⟩
  cases hx with
  | test _ h => exact (h o1.word).elim
  | deep => cases e1
  | notBad h => exact (hn h).elim
  | notOk h => exact (hn h).elim
  | notFail h => exact (hn h).elim
  | openBad => cases e1
  | openFail => cases e1
  | openNot => cases e1
  | openClose => cases e1
  | openOk _ _ _ ha hr' hc hx =>
    cases e1
    rw [adv_lazy] at ha hx
    cases ha
    cases hx
    have hn1 : (lang (tNotAnd s t)).next ([110, 111, 116] : List UInt8).length = ([110, 111, 116, 32, 40] : List UInt8).length := o1.next
    rw [hn1] at hr'
    obtain ⟨rfl, rfl⟩ := key hr' rfl
    have c1 : Stands (tNotAnd s t) ([110, 111, 116, 32, 40, 40] ++ s ++ [41, 32, 97, 110, 100, 32, 40] ++ t ++ [41]).length wClose (([110, 111, 116, 32, 40, 40] ++ s ++ [41, 32, 97, 110, 100, 32, 40] ++ t ++ [41]).length + 0 + 1) := stands_mk (pre := [110, 111, 116, 32, 40, 40] ++ s ++ [41, 32, 97, 110, 100, 32, 40] ++ t ++ [41]) (l := [41]) (by simp [tNotAnd]) (w := wClose) (k := .mark) (n := 1) (j := 0) rfl rfl (.inr rfl) rfl
    have e4 : ([110, 111, 116, 32, 40, 40] ++ s ++ [41, 32, 97, 110, 100, 32, 40] ++ t ++ [41] : List UInt8).length = ([110, 111, 116, 32, 40, 40] ++ s ++ [41, 32, 97, 110, 100, 32, 40] : List UInt8).length + t.length + 1 := by (try simp only [List.length_append, List.length_cons, List.length_nil]); (try omega)
    rw [e4] at c1
    have e5 : (lang (tNotAnd s t)).next (([110, 111, 116, 32, 40, 40] ++ s ++ [41, 32, 97, 110, 100, 32, 40] : List UInt8).length + t.length + 1) = (tNotAnd s t).length := by
      have := c1.next
      show nextOf _ _ = _
      rw [this]; simp [tNotAnd]; omega
    rw [e5] at h4
    obtain ⟨rfl, rfl⟩ := all_end ended_word h4
    obtain ⟨rfl, rfl⟩ := any_end ended_word h2
    rfl
end
end Go.Proofs.YtkblkdnihppmnaaGreatDoor.Filt
/- Filters (layer 21): a filter's text is read again (the plain law of FilterBack). No program in sight. -/
namespace Go.Proofs.YtkblkdnihppmnaaGreatDoor.Filt
set_option linter.unusedSimpArgs false
set_option linter.unusedVariables false

/-! ## the texts of tests -/
def numT (f k : Nat) (n : Int) : List UInt8 := fieldNames.getD f [] ++ 32 :: (askNames.getD k [] ++ 32 :: (if f = 2 ∧ 1 ≤ n ∧ n ≤ 7 then statusNames.getD (n.toNat - 1) [] else Lib.itoa n))
def idtT (k : Nat) (s : List UInt8) : List UInt8 := [105, 100] ++ 32 :: (askNames.getD k [] ++ 32 :: (34 :: (s ++ [34])))
abbrev ftxt : Nd → List UInt8 := txt numT idtT
def I64 (n : Int) : Prop := -9223372036854775808 ≤ n ∧ n ≤ 9223372036854775807
/-- what is read, is so -/
def Valid : Nd → Prop
  | .num f k n => f < 13 ∧ k < 6 ∧ I64 n
  | .idt k s => k < 6 ∧ s.length ≤ 64 ∧ s.all notQuote = true
  | .not n => Valid n
  | .all a b => Valid a ∧ Valid b
  | .any a b => Valid a ∧ Valid b
/-- how deep a text is -/
def depW (r : Nat) (n : Nd) (d : Nat) : Nat := if rankOf n < r then d + 1 else d
def dep : Nd → Nat
  | .num _ _ _ => 0
  | .idt _ _ => 0
  | .not n => depW 2 n (dep n) + 1
  | .all a b => max (depW 1 a (dep a)) (depW 1 b (dep b))
  | .any a b => max (dep a) (dep b)
/-- behind what is read: what comes before it, if something does -/
inductive Mode where
  | start
  | andAfter (x : Nd)
  | orAfter (x : Nd)
def Mode.put : Mode → Nd → Nd
  | .start, n => n
  | .andAfter x, n => .all x n
  | .orAfter x, n => .any x n
/-- how a filter's text is read -/
def nrm : Mode → Nd → Nd
  | m, .num f k n => m.put (.num f k n)
  | m, .idt k s => m.put (.idt k s)
  | m, .not n => m.put (.not (nrm .start n))
  | .andAfter x, .all a b => nrm (.andAfter (nrm (.andAfter x) a)) b
  | m, .all a b => m.put (nrm (.andAfter (nrm .start a)) b)
  | .orAfter x, .any a b => nrm (.orAfter (nrm (.orAfter x) a)) b
  | m, .any a b => m.put (nrm (.orAfter (nrm .start a)) b)
section
variable (hn : Nat → Nat → Int → Bool) (hi : Nat → List UInt8 → Bool)
end
section
variable (tn : Nat → Nat → Int → List UInt8) (ti : Nat → List UInt8 → List UInt8)
end

/-! ## what is read is valid, and not too deep -/
theorem depW2 (n : Nd) (d : Nat) : depW 2 n d ≤ d + 1 ∧ d ≤ depW 2 n d ∧ depW 1 n d ≤ depW 2 n d ∧ d ≤ depW 1 n d := by
  unfold depW
  cases n <;> simp [rankOf]
theorem reads_dep {L : Lang} (hT : ∀ e p n q, L.test e p = .ok n q → dep n = 0 ∧ rankOf n = 2) {e : Bool} {nt : NT} {d p : Nat} {r : Res} (h : Reads L e nt d p r) : ∀ {n q}, r = .ok n q →
    match nt with
    | .one => d ≤ 32 → d + depW 2 n (dep n) ≤ 32
    | .all => d ≤ 32 → d + depW 1 n (dep n) ≤ 32
    | .any => d ≤ 32 → d + dep n ≤ 32
    | .allMore x => d + depW 1 x (dep x) ≤ 32 → d + depW 1 n (dep n) ≤ 32
    | .anyMore x => d + dep x ≤ 32 → d + dep n ≤ 32 := by
  induction h with
  | test h1 h2 =>
    intro n q hr hd
    obtain ⟨h1, h2⟩ := hT _ _ _ _ hr
    unfold depW
    rw [h1, h2, if_neg (by omega)]
    omega
  | deep => intro n q hr; cases hr
  | notBad => intro n q hr; cases hr
  | notFail => intro n q hr; cases hr
  | openBad => intro n q hr; cases hr
  | openFail => intro n q hr; cases hr
  | openNot => intro n q hr; cases hr
  | openClose => intro n q hr; cases hr
  | allFail => intro n q hr; cases hr
  | allBad => intro n q hr; cases hr
  | allNo => intro n q hr; cases hr
  | anyFail => intro n q hr; cases hr
  | anyBad => intro n q hr; cases hr
  | anyNo => intro n q hr; cases hr
  | notOk hw hd ha hr ih =>
    intro n q hr hd2
    cases hr
    have := ih rfl (by omega)
    rename_i m
    have e : depW 2 (.not m) (dep (.not m)) = depW 2 m (dep m) + 1 := rfl
    rw [e]
    omega
  | @openOk d p p1 p2 p3 m h0 hw hd ha hr hc hx ih =>
    intro n q hr hd2
    cases hr
    have := ih rfl (by omega)
    have := (depW2 m (dep m)).1
    omega
  | @allOk d p p1 m r hr hm ih1 ih2 =>
    intro n q hr hd
    subst hr
    have := ih1 rfl hd
    have h2 := ih2 rfl
    have := (depW2 m (dep m)).2.2.1
    exact h2 (by omega)
  | allEnd hw => intro n q hr hd; cases hr; exact hd
  | @allMore d p p1 p2 m m2 r hw ha hr hm ih1 ih2 =>
    intro n q hr hd
    subst hr
    have h1 := ih1 rfl (by omega)
    have h2 := ih2 rfl
    have := (depW2 m2 (dep m2)).2.2.1
    refine h2 ?_
    have e : depW 1 (.all m m2) (dep (.all m m2)) = max (depW 1 m (dep m)) (depW 1 m2 (dep m2)) := rfl
    rw [e]
    omega
  | @anyOk d p p1 m r hr hm ih1 ih2 =>
    intro n q hr hd
    subst hr
    have := ih1 rfl hd
    have h2 := ih2 rfl
    have := (depW2 m (dep m)).2.2.2
    exact h2 (by omega)
  | anyEnd hw => intro n q hr hd; cases hr; exact hd
  | @anyMore d p p1 p2 m m2 r hw ha hr hm ih1 ih2 =>
    intro n q hr hd
    subst hr
    have h1 := ih1 rfl (by omega)
    have h2 := ih2 rfl
    have := (depW2 m2 (dep m2)).2.2.2
    refine h2 ?_
    have e : dep (.any m m2) = max (dep m) (dep m2) := rfl
    rw [e]
    omega
theorem reads_valid {L : Lang} (hT : ∀ e p n q, L.test e p = .ok n q → Valid n) {e : Bool} {nt : NT} {d p : Nat} {r : Res} (h : Reads L e nt d p r) : ∀ {n q}, r = .ok n q →
    match nt with
    | .allMore x => Valid x → Valid n
    | .anyMore x => Valid x → Valid n
    | _ => Valid n := by
  induction h with
  | test h1 h2 => intro n q hr; exact hT _ _ _ _ hr
  | deep => intro n q hr; cases hr
  | notBad => intro n q hr; cases hr
  | notFail => intro n q hr; cases hr
  | openBad => intro n q hr; cases hr
  | openFail => intro n q hr; cases hr
  | openNot => intro n q hr; cases hr
  | openClose => intro n q hr; cases hr
  | allFail => intro n q hr; cases hr
  | allBad => intro n q hr; cases hr
  | allNo => intro n q hr; cases hr
  | anyFail => intro n q hr; cases hr
  | anyBad => intro n q hr; cases hr
  | anyNo => intro n q hr; cases hr
  | notOk hw hd ha hr ih => intro n q hr; cases hr; have h := ih rfl; exact h
  | openOk h0 hw hd ha hr hc hx ih => intro n q hr; cases hr; exact ih rfl
  | allOk hr hm ih1 ih2 => intro n q hr; subst hr; exact ih2 rfl (ih1 rfl)
  | allEnd hw => intro n q hr; cases hr; exact id
  | allMore hw ha hr hm ih1 ih2 => intro n q hr hx; subst hr; exact ih2 rfl ⟨hx, ih1 rfl⟩
  | anyOk hr hm ih1 ih2 => intro n q hr; subst hr; exact ih2 rfl (ih1 rfl)
  | anyEnd hw => intro n q hr; cases hr; exact id
  | anyMore hw ha hr hm ih1 ih2 => intro n q hr hx; subst hr; exact ih2 rfl ⟨hx, ih1 rfl⟩
theorem numOf_i64 {l : List UInt8} {n : Int} (h : numOf l = some n) : I64 n := by
  unfold numOf at h
  unfold I64
  split at h
  · split at h
    · rename_i h1
      cases h
      simp only [Bool.and_eq_true, decide_eq_true_eq] at h1
      omega
    · cases h
  · split at h
    · rename_i h1
      cases h
      simp only [Bool.and_eq_true, decide_eq_true_eq] at h1
      omega
    · cases h
theorem runLen_all (p : UInt8 → Bool) : ∀ l : List UInt8, (l.take (runLen p l)).all p = true
  | [] => rfl
  | c :: l => by
    unfold runLen
    split
    · rename_i h; simp [h]; simpa using runLen_all p l
    · rfl
theorem testVal_valid {s : List UInt8} {f k p : Nat} {n : Nd} (hf : f < 14) (hk : k < 6) (h : testVal s f k p = some n) : Valid n ∧ dep n = 0 ∧ rankOf n = 2 := by
  have hkind : (lex s p).kind = (lexRest (s.drop (startOf s p))).1 := rfl
  have htxt : textOf s (lex s p) = (s.drop (startOf s p)).take (lexRest (s.drop (startOf s p))).2 := by
    unfold textOf lex
    simp only []
    congr 1
    omega
  unfold testVal at h
  rw [htxt, hkind] at h
  generalize s.drop (startOf s p) = l at h
  split at h
  · rename_i h1
    cases h
    refine ⟨?_, rfl, rfl⟩
    have hq := h1.2
    cases l with
    | nil => cases hq
    | cons c r =>
      replace hq : (lexCons c r).1 = .quoted := hq
      show _ ∧ (((c :: r).take (lexCons c r).2).drop 1).dropLast.length ≤ 64 ∧ (((c :: r).take (lexCons c r).2).drop 1).dropLast.all notQuote = true
      have key : runLen notQuote r < r.length ∧ runLen notQuote r ≤ 64 ∧ (lexCons c r).2 = runLen notQuote r + 2 := by
        unfold lexCons at hq ⊢
        split at hq
        · cases hq
        rename_i h2
        rw [if_neg h2]
        split at hq
        · split at hq <;> cases hq
        rename_i h3
        rw [if_neg h3]
        split at hq
        · rename_i h4
          rw [if_pos h4]
          split at hq
          · rename_i h5; rw [if_pos h5]; exact ⟨h5.1, h5.2, rfl⟩
          · cases hq
        · (repeat' split at hq) <;> cases hq
      obtain ⟨k1, k2, k3⟩ := key
      have e : (((c :: r).take (lexCons c r).2).drop 1).dropLast = r.take (runLen notQuote r) := by
        rw [k3, List.take_succ_cons, List.drop_succ_cons, List.drop_zero, List.dropLast_eq_take, List.take_take, List.length_take]
        congr 1
        omega
      rw [e]
      exact ⟨hk, by rw [List.length_take]; omega, runLen_all _ _⟩
  · rename_i h0
    split at h
    · rename_i h1
      cases h
      refine ⟨⟨by omega, hk, ?_⟩, rfl, rfl⟩
      have hq := h1.2
      cases l with
      | nil => cases hq
      | cons c r =>
        replace hq : (lexCons c r).1 = .digits := hq
        show I64 ((numOf ((c :: r).take (lexCons c r).2)).getD 0)
        have key : (numOf (c :: r.take (runLen isDigit r))).isSome = true ∧ (lexCons c r).2 = runLen isDigit r + 1 := by
          unfold lexCons at hq ⊢
          split at hq
          · cases hq
          rename_i h2
          rw [if_neg h2]
          split at hq
          · rename_i h3
            rw [if_pos h3]
            split at hq
            · rename_i h4; exact ⟨h4, rfl⟩
            · cases hq
          · (repeat' split at hq) <;> cases hq
        obtain ⟨k1, k2⟩ := key
        rw [k2, List.take_succ_cons]
        cases hn : numOf (c :: r.take (runLen isDigit r)) with
        | none => rw [hn] at k1; cases k1
        | some v => exact numOf_i64 hn
    · split at h
      · rename_i h1
        cases h
        obtain ⟨h1a, h1b, h1c⟩ := h1
        refine ⟨⟨by omega, hk, ?_⟩, rfl, rfl⟩
        unfold I64
        omega
      · cases h
theorem test_valid {s : List UInt8} : ∀ e p n q, (lang s).test e p = .ok n q → Valid n ∧ dep n = 0 ∧ rankOf n = 2 := by
  intro e p n q h
  replace h : testG (advG (isBad s) (nextOf s) (atOf s)) (atOf s) (isField s) (isAsk s) (fun p p1 p2 => testVal s (fieldOf s p) (askOf s p1) p2) e p = .ok n q := h
  unfold testG at h
  split at h
  · rename_i h1
    split at h
    · cases h
    · split at h
      · rename_i h2
        split at h
        · cases h
        · split at h
          · cases h
          · rename_i m hv
            split at h
            · cases h
            · cases h
              exact testVal_valid h1.2 h2.2 hv
      · cases h
  · cases h
end Go.Proofs.YtkblkdnihppmnaaGreatDoor.Filt
/- Filters (layer 21): a filter's text is read as that filter (the plain law of FilterBack, second part). No program in sight. -/
namespace Go.Proofs.YtkblkdnihppmnaaGreatDoor.Filt
set_option linter.unusedSimpArgs false
set_option linter.unusedVariables false

/-! ## tokens of what is printed -/
/-- nothing that goes on a word stands behind -/
def Follow (l : List UInt8) : Prop := l = [] ∨ ∃ r, l = 32 :: r ∨ l = 41 :: r
/-- a token is there -/
structure Tk (U : List UInt8) (p : Nat) (k : TK) (w : List UInt8) (q : Nat) : Prop where
  kind : (lex U p).kind = k
  text : textOf U (lex U p) = w
  next : nextOf U p = q
/-! ### numerals -/
theorem decVal_snoc (l : List UInt8) (c : UInt8) : decVal (l ++ [c]) = 10 * decVal l + (c.toNat - 48) := by unfold decVal; rw [List.foldl_append]; rfl
theorem dec_digits (u : Nat) : (Lib.decDigits u).all isDigit = true ∧ decVal (Lib.decDigits u) = u ∧ Lib.decDigits u ≠ [] ∧ (Lib.decDigits u = [48] ∨ (Lib.decDigits u).head? ≠ some 48) ∧ (0 < u → (Lib.decDigits u).head? ≠ some 48) := by
  induction u using Nat.strongRecOn with
  | _ u ih =>
    by_cases h : u < 10
    · rw [Lib.decDigits, dif_pos h]
      match u, h with
      | 0, _ => exact ⟨by decide, by decide, by decide, by decide, by decide⟩
      | 1, _ => exact ⟨by decide, by decide, by decide, by decide, by decide⟩
      | 2, _ => exact ⟨by decide, by decide, by decide, by decide, by decide⟩
      | 3, _ => exact ⟨by decide, by decide, by decide, by decide, by decide⟩
      | 4, _ => exact ⟨by decide, by decide, by decide, by decide, by decide⟩
      | 5, _ => exact ⟨by decide, by decide, by decide, by decide, by decide⟩
      | 6, _ => exact ⟨by decide, by decide, by decide, by decide, by decide⟩
      | 7, _ => exact ⟨by decide, by decide, by decide, by decide, by decide⟩
      | 8, _ => exact ⟨by decide, by decide, by decide, by decide, by decide⟩
      | 9, _ => exact ⟨by decide, by decide, by decide, by decide, by decide⟩
      | n + 10, h => omega
    · obtain ⟨h1, h2, h3, h4, h5⟩ := ih (u / 10) (by omega)
      rw [Lib.decDigits, dif_neg h]
      have hc : (UInt8.ofNat (48 + u % 10)).toNat = 48 + u % 10 := by simp only [UInt8.toNat_ofNat']; omega
      have hh : (Lib.decDigits (u / 10) ++ [UInt8.ofNat (48 + u % 10)]).head? = (Lib.decDigits (u / 10)).head? := by
        cases hd : Lib.decDigits (u / 10) with
        | nil => exact (h3 hd).elim
        | cons c r => rfl
      refine ⟨?_, ?_, by simp, .inr ?_, fun _ => ?_⟩
      · rw [List.all_append, h1]
        simp only [List.all_cons, List.all_nil, Bool.true_and, Bool.and_true, isDigit, hc, decide_eq_true_eq]
        omega
      · rw [decVal_snoc, h2, hc]; omega
      · rw [hh]; exact h5 (by omega)
      · rw [hh]; exact h5 (by omega)
theorem mag_dec {u : Nat} : magOk (Lib.decDigits u) = true := by
  obtain ⟨h1, h2, h3, h4, h5⟩ := dec_digits u
  unfold magOk
  rw [h1]
  rcases h4 with h4 | h4
  · rw [h4]; rfl
  · have e1 : (Lib.decDigits u).isEmpty = false := by cases h : Lib.decDigits u with | nil => exact (h3 h).elim | cons => rfl
    have e2 : ((Lib.decDigits u).head? != some 48) = true := by rw [bne_iff_ne]; exact h4
    rw [e1, e2]
    simp
theorem dec_ne45 (u : Nat) (r : List UInt8) : Lib.decDigits u ≠ 45 :: r := by
  intro h
  have := (dec_digits u).1
  rw [h] at this
  simp [isDigit] at this
theorem numOf_plain {l : List UInt8} (h : ∀ r, l ≠ 45 :: r) : numOf l = if magOk l && decide (decVal l ≤ 9223372036854775807) then some (decVal l : Int) else none := by
  unfold numOf
  split
  · exact (h _ rfl).elim
  · rfl
theorem num_itoa {n : Int} (h : I64 n) : numOf (Lib.itoa n) = some n := by
  unfold I64 at h
  unfold Lib.itoa
  split
  · rename_i hn
    have hv := (dec_digits n.natAbs).2.1
    show (if magOk (Lib.decDigits n.natAbs) && decide (0 < decVal (Lib.decDigits n.natAbs)) && decide (decVal (Lib.decDigits n.natAbs) ≤ 9223372036854775808) then some (-(decVal (Lib.decDigits n.natAbs) : Int)) else none) = some n
    rw [mag_dec, hv, if_pos (by simp; omega)]
    congr 1
    omega
  · rename_i hn
    have hv := (dec_digits n.toNat).2.1
    rw [numOf_plain (dec_ne45 _), mag_dec, hv, if_pos (by simp; omega)]
    congr 1
    omega
/-! ## tests -/
/-! ## a blank ahead -/
/-! ## the whole -/
/-- behind an any nothing stands but the end, a bracket, or another or -/
def FollowAny (l : List UInt8) : Prop := l = [] ∨ ∃ r, l = 41 :: r ∨ l = sOr ++ r
def T1 (n : Nd) : List UInt8 := within 1 n (ftxt n)
def T2 (n : Nd) : List UInt8 := within 2 n (ftxt n)
structure Prints (n : Nd) : Prop where
  one : ∀ {U pre post : List UInt8} {d : Nat}, U = pre ++ (T2 n ++ post) → Follow post → d + depW 2 n (dep n) ≤ 32 → Reads (lang U) false .one d pre.length (.ok (nrm .start n) (pre.length + (T2 n).length))
  all : ∀ {U pre post : List UInt8} {d : Nat} {r : Res}, U = pre ++ (T1 n ++ post) → Follow post → d + depW 1 n (dep n) ≤ 32 → Reads (lang U) false (.allMore (nrm .start n)) d (pre.length + (T1 n).length) r → Reads (lang U) false .all d pre.length r
  more : ∀ {U pre post : List UInt8} {d : Nat} {x : Nd} {r : Res}, U = pre ++ (sAnd ++ (T1 n ++ post)) → Follow post → d + depW 1 n (dep n) ≤ 32 → Reads (lang U) false (.allMore (nrm (.andAfter x) n)) d (pre.length + 5 + (T1 n).length) r → Reads (lang U) false (.allMore x) d pre.length r
  any : ∀ {U pre post : List UInt8} {d : Nat} {r : Res}, U = pre ++ (ftxt n ++ post) → FollowAny post → d + dep n ≤ 32 → Reads (lang U) false (.anyMore (nrm .start n)) d (pre.length + (ftxt n).length) r → Reads (lang U) false .any d pre.length r
  orMore : ∀ {U pre post : List UInt8} {d : Nat} {x : Nd} {r : Res}, U = pre ++ (sOr ++ (ftxt n ++ post)) → FollowAny post → d + dep n ≤ 32 → Reads (lang U) false (.anyMore (nrm (.orAfter x) n)) d (pre.length + 4 + (ftxt n).length) r → Reads (lang U) false (.anyMore x) d pre.length r
/-- what the program reads is valid, and not too deep -/
theorem parse_valid {s : List UInt8} {n : Nd} (h : ParseP s (.ok (some n))) : Valid n ∧ dep n ≤ 32 := by
  cases h with
  | ok h hb he hr hp =>
    have h1 := reads_valid (fun e p n q h => (test_valid e p n q h).1) hr rfl
    have h2 := reads_dep (fun e p n q h => (test_valid e p n q h).2) hr rfl
    exact ⟨h1, by have := h2 (by omega); omega⟩
end Go.Proofs.YtkblkdnihppmnaaGreatDoor.Filt
/- Filters (layer 21): what the library reads as a number is what the chapter does. No program in sight. -/
namespace Go.Proofs.YtkblkdnihppmnaaGreatDoor.Filt
set_option linter.unusedSimpArgs false
set_option linter.unusedVariables false

/-- the program's test of a numeral -/
def numP (l : List UInt8) : Option Int := match Lib.parseIntB 64 l with
  | .ok v => if Lib.itoa v = l then some v else none
  | _ => none
theorem fold_mono : ∀ (l : List UInt8) (n : Nat), n ≤ l.foldl (fun n c => 10 * n + (c.toNat - 48)) n
  | [], n => Nat.le_refl _
  | c :: l, n => Nat.le_trans (show n ≤ 10 * n + (c.toNat - 48) by omega) (fold_mono l _)
theorem parse_all : ∀ (l : List UInt8) (acc M : Nat), l.all isDigit = true → M ≤ 18446744073709551615 → acc ≤ M → (l.foldl (fun n c => 10 * n + (c.toNat - 48)) acc ≤ M → Lib.parseUintM M acc l = .ok (l.foldl (fun n c => 10 * n + (c.toNat - 48)) acc)) ∧ (M < l.foldl (fun n c => 10 * n + (c.toNat - 48)) acc → Lib.parseUintM M acc l = .range)
  | [], acc, M, _, _, ha => ⟨fun _ => rfl, fun h => by simp at h; omega⟩
  | c :: r, acc, M, hd, hM, ha => by
    rw [List.all_cons, Bool.and_eq_true] at hd
    have hc : 48 ≤ c.toNat ∧ c.toNat ≤ 57 := of_decide_eq_true hd.1
    simp only [List.foldl_cons]
    have hm := fold_mono r (10 * acc + (c.toNat - 48))
    unfold Lib.parseUintM
    rw [if_pos hc]
    have e : acc * 10 + (c.toNat - 48) = 10 * acc + (c.toNat - 48) := by omega
    rw [e]
    by_cases h1 : 1844674407370955162 ≤ acc
    · rw [if_pos h1]
      exact ⟨fun h => by omega, fun _ => rfl⟩
    · rw [if_neg h1]
      by_cases h2 : M < 10 * acc + (c.toNat - 48)
      · rw [if_pos h2]
        exact ⟨fun h => by omega, fun _ => rfl⟩
      · rw [if_neg h2]
        exact parse_all r _ M hd.2 hM (by omega)
theorem parse_none : ∀ (l : List UInt8) (acc M : Nat), l.all isDigit = false → ∀ v, Lib.parseUintM M acc l ≠ .ok v
  | [], _, _, h, _ => by simp at h
  | c :: r, acc, M, h, v => by
    unfold Lib.parseUintM
    split
    · rename_i hc
      split
      · simp
      · split
        · simp
        · refine parse_none r _ M ?_ v
          rw [List.all_cons] at h
          have : isDigit c = true := decide_eq_true hc
          rw [this] at h
          simpa using h
    · simp
theorem decDigits_first : ∀ (l : List UInt8), l.all isDigit = true → l ≠ [] → (l.length = 1 ∨ l.head? ≠ some 48) → Lib.decDigits (decVal l) = l := by
  intro l
  induction hn : l.length using Nat.strongRecOn generalizing l with
  | _ n ih =>
    intro hd hne hz
    rcases List.eq_nil_or_concat l with rfl | ⟨r, c, rfl⟩
    · exact (hne rfl).elim
    rw [List.concat_eq_append] at *
    rw [List.all_append, Bool.and_eq_true] at hd
    have hc : 48 ≤ c.toNat ∧ c.toNat ≤ 57 := by
      have : isDigit c = true := by simpa using hd.2
      exact of_decide_eq_true this
    rw [decVal_snoc]
    cases r with
    | nil =>
      show Lib.decDigits (10 * 0 + (c.toNat - 48)) = [c]
      rw [Lib.decDigits, dif_pos (by omega)]
      congr 1
      apply UInt8.toNat_inj.1
      simp only [UInt8.toNat_ofNat']
      omega
    | cons b r =>
      have hb : b.toNat ≠ 48 := by
        rcases hz with h | h
        · simp only [List.length_append, List.length_cons, List.length_nil] at hn; omega
        · intro e
          apply h
          have : b = 48 := UInt8.toNat_inj.1 e
          rw [this]; rfl
      have hh : (b :: r).head? ≠ some 48 := fun e => hb (by
        have : b = 48 := by simpa using e
        rw [this]; rfl)
      have hdv := ih (b :: r).length (by rw [← hn]; simp) (b :: r) rfl hd.1 (by simp) (.inr hh)
      have hb2 : 48 ≤ b.toNat ∧ b.toNat ≤ 57 := by
        have := hd.1
        rw [List.all_cons, Bool.and_eq_true] at this
        exact of_decide_eq_true this.1
      have hpos : 0 < decVal (b :: r) := by
        have := fold_mono r (10 * 0 + (b.toNat - 48))
        show 0 < r.foldl _ (10 * 0 + (b.toNat - 48))
        omega
      rw [Lib.decDigits, dif_neg (by omega)]
      have e1 : (10 * decVal (b :: r) + (c.toNat - 48)) / 10 = decVal (b :: r) := by omega
      have e2 : (10 * decVal (b :: r) + (c.toNat - 48)) % 10 = c.toNat - 48 := by omega
      rw [e1, e2, hdv]
      congr 2
      apply UInt8.toNat_inj.1
      simp only [UInt8.toNat_ofNat']
      omega
theorem digits_ne {l : List UInt8} (h : l.all isDigit = true) : ∀ c r, l = c :: r → ¬ (c.toNat = 43 ∨ c.toNat = 45) := by
  rintro c r rfl
  rw [List.all_cons, Bool.and_eq_true] at h
  have : 48 ≤ c.toNat ∧ c.toNat ≤ 57 := of_decide_eq_true h.1
  omega
/-- what the program reads as a number is what the chapter does -/
theorem num_same (l : List UInt8) : numP l = numOf l := by
  have key : ∀ (v : Int), Lib.parseIntB 64 l = .ok v → Lib.itoa v = l → numOf l = some v := by
    intro v h1 h2
    have hv : I64 v := by
      unfold Lib.parseIntB at h1
      unfold I64
      cases l with
      | nil => cases h1
      | cons c r =>
        dsimp only at h1
        split at h1
        · cases h1
        · cases h1
        · split at h1
          · cases h1
          · split at h1
            · cases h1
            · cases h1
              split <;> omega
    rw [← h2]
    exact num_itoa hv
  have back : ∀ (v : Int), numOf l = some v → Lib.parseIntB 64 l = .ok v ∧ Lib.itoa v = l := by
    intro v h
    unfold numOf at h
    split at h
    · rename_i r
      split at h
      · rename_i hc
        cases h
        simp only [Bool.and_eq_true, decide_eq_true_eq] at hc
        obtain ⟨⟨hm, h0⟩, h1⟩ := hc
        unfold magOk at hm
        simp only [Bool.and_eq_true] at hm
        obtain ⟨⟨m1, m2⟩, m3⟩ := hm
        have hne : r ≠ [] := by rintro rfl; simp at m1
        have hz : r.length = 1 ∨ r.head? ≠ some 48 := by
          rw [Bool.or_eq_true] at m3
          rcases m3 with m3 | m3
          · exact .inl (by simpa using m3)
          · exact .inr (by simpa using m3)
        have hp := (parse_all r 0 18446744073709551615 m2 (by omega) (by omega)).1
        have hdv : decVal r = r.foldl (fun n c => 10 * n + (c.toNat - 48)) 0 := rfl
        rw [← hdv] at hp
        have hp := hp (by omega)
        have hu : Lib.parseUintB 64 r = .ok (decVal r) := by
          unfold Lib.parseUintB
          rw [if_neg hne]
          exact hp
        constructor
        · unfold Lib.parseIntB
          dsimp only
          rw [if_pos (by decide), hu]
          dsimp only
          rw [if_neg (fun h => h.1 (by decide)), if_neg (fun h => by have := h.2; omega), if_pos (by decide)]
        · unfold Lib.itoa
          rw [if_pos (by omega)]
          have : (-(decVal r : Int)).natAbs = decVal r := by omega
          rw [this, decDigits_first r m2 hne hz]
      · cases h
    · rename_i hl
      split at h
      · rename_i hc
        cases h
        simp only [Bool.and_eq_true, decide_eq_true_eq] at hc
        obtain ⟨hm, h1⟩ := hc
        unfold magOk at hm
        simp only [Bool.and_eq_true] at hm
        obtain ⟨⟨m1, m2⟩, m3⟩ := hm
        have hne : l ≠ [] := by rintro rfl; simp at m1
        have hz : l.length = 1 ∨ l.head? ≠ some 48 := by
          rw [Bool.or_eq_true] at m3
          rcases m3 with m3 | m3
          · exact .inl (by simpa using m3)
          · exact .inr (by simpa using m3)
        have hp := (parse_all l 0 18446744073709551615 m2 (by omega) (by omega)).1
        have hdv : decVal l = l.foldl (fun n c => 10 * n + (c.toNat - 48)) 0 := rfl
        rw [← hdv] at hp
        have hp := hp (by omega)
        have hu : Lib.parseUintB 64 l = .ok (decVal l) := by
          unfold Lib.parseUintB
          rw [if_neg hne]
          exact hp
        have hfirst := digits_ne m2
        have hdd := decDigits_first l m2 hne hz
        constructor
        · cases l with
          | nil => exact (hne rfl).elim
          | cons c r =>
            have hc := hfirst c r rfl
            have hc45 : ¬ c.toNat = 45 := fun h => hc (.inr h)
            unfold Lib.parseIntB
            dsimp only
            rw [if_neg hc, hu]
            dsimp only
            rw [if_neg (by omega), if_neg (by simp [hc45]), if_neg hc45]
        · unfold Lib.itoa
          rw [if_neg (by omega)]
          show Lib.decDigits ((decVal l : Int)).toNat = l
          rw [Int.toNat_natCast, hdd]
      · cases h
  cases hn : numOf l with
  | some v =>
    obtain ⟨h1, h2⟩ := back v hn
    unfold numP
    rw [h1]
    exact if_pos h2
  | none =>
    unfold numP
    cases hp : Lib.parseIntB 64 l with
    | ok v =>
      refine if_neg fun h => ?_
      have := key v hp h
      rw [hn] at this
      cases this
    | _ => rfl
/-- where a quote stands -/
theorem index_quote : ∀ l : List UInt8, Lib.indexByte l 34 = if runLen notQuote l < l.length then (runLen notQuote l : Int) else -1
  | [] => rfl
  | c :: l => by
    unfold Lib.indexByte runLen
    by_cases h : c = 34
    · have e : notQuote c = false := by rw [h]; decide
      rw [e, h]
      simp
    · have e : notQuote c = true := decide_eq_true (fun x => h (UInt8.toNat_inj.1 x))
      have hb : (c == 34) = false := by simpa using h
      rw [e, hb, index_quote l]
      simp only [if_true, Bool.false_eq_true, if_false, List.length_cons]
      by_cases h2 : runLen notQuote l < l.length
      · have h3 : ((runLen notQuote l : Int) == -1) = false := by rw [beq_eq_false_iff_ne]; omega
        simp only [if_pos h2, h3, if_pos (show runLen notQuote l + 1 < l.length + 1 by omega)]
        simp
      · simp only [if_neg h2, if_neg (show ¬ runLen notQuote l + 1 < l.length + 1 by omega)]
        rfl
end Go.Proofs.YtkblkdnihppmnaaGreatDoor.Filt
/- Filters (layer 21): a test's tokens. No program in sight. -/
namespace Go.Proofs.YtkblkdnihppmnaaGreatDoor.Filt
set_option linter.unusedSimpArgs false
set_option linter.unusedVariables false

section
variable {s : List UInt8}
theorem test_of {p : Nat} : (lang s).test true p = testG (lang s).adv (atOf s) (isField s) (isAsk s) (fun p p1 p2 => testVal s (fieldOf s p) (askOf s p1) p2) true p := rfl
theorem test_noField {p : Nat} (h : ¬ isField s p) : (lang s).test true p = .fail (lex s p).at_ := by
  rw [test_of]; unfold testG; rw [if_neg h]; rfl
theorem test_bad1 {p a : Nat} (h : isField s p) (ha : (lang s).adv true p = .error a) : (lang s).test true p = .fail a := by
  rw [test_of]; unfold testG; rw [if_pos h, ha]
theorem test_noAsk {p p1 : Nat} (h : isField s p) (ha : (lang s).adv true p = .ok p1) (hk : ¬ isAsk s p1) : (lang s).test true p = .fail (lex s p1).at_ := by
  rw [test_of]; unfold testG; rw [if_pos h, ha]; simp only []; rw [if_neg hk]; rfl
theorem test_bad2 {p p1 a : Nat} (h : isField s p) (ha : (lang s).adv true p = .ok p1) (hk : isAsk s p1) (hb : (lang s).adv true p1 = .error a) : (lang s).test true p = .fail a := by
  rw [test_of]; unfold testG; rw [if_pos h, ha]; simp only []; rw [if_pos hk, hb]
theorem test_none {p p1 p2 : Nat} (h : isField s p) (ha : (lang s).adv true p = .ok p1) (hk : isAsk s p1) (hb : (lang s).adv true p1 = .ok p2) (hv : testVal s (fieldOf s p) (askOf s p1) p2 = none) : (lang s).test true p = .fail (lex s p2).at_ := by
  rw [test_of]; unfold testG; rw [if_pos h, ha]; simp only []; rw [if_pos hk, hb]; simp only [hv]; rfl
theorem test_bad3 {p p1 p2 a : Nat} {n : Nd} (h : isField s p) (ha : (lang s).adv true p = .ok p1) (hk : isAsk s p1) (hb : (lang s).adv true p1 = .ok p2) (hv : testVal s (fieldOf s p) (askOf s p1) p2 = some n) (hc : (lang s).adv true p2 = .error a) : (lang s).test true p = .fail a := by
  rw [test_of]; unfold testG; rw [if_pos h, ha]; simp only []; rw [if_pos hk, hb]; simp only [hv, hc]
theorem test_ok {p p1 p2 p3 : Nat} {n : Nd} (h : isField s p) (ha : (lang s).adv true p = .ok p1) (hk : isAsk s p1) (hb : (lang s).adv true p1 = .ok p2) (hv : testVal s (fieldOf s p) (askOf s p1) p2 = some n) (hc : (lang s).adv true p2 = .ok p3) : (lang s).test true p = .ok n p3 := by
  rw [test_of]; unfold testG; rw [if_pos h, ha]; simp only []; rw [if_pos hk, hb]; simp only [hv, hc]
end
/-! ## words' places -/
abbrev fieldNums : List (List UInt8) := fieldNames.take 13
abbrev idW : List UInt8 := [105, 100]
abbrev statusW : List UInt8 := [115, 116, 97, 116, 117, 115]
theorem idx_lt {x : List UInt8} : ∀ {l : List (List UInt8)} , l.idxOf x < l.length → l.getD (l.idxOf x) [] = x
  | [], h => by simp at h
  | y :: l, h => by
    rw [List.idxOf_cons] at h ⊢
    cases hy : (y == x) with
    | true => rw [hy] at h; simp only [cond_true, List.getD_cons_zero]; simpa using hy
    | false =>
      rw [hy] at h
      simp only [cond_false, List.length_cons, List.getD_cons_succ] at h ⊢
      exact idx_lt (by omega)
theorem idx_take {x : List UInt8} : ∀ (l : List (List UInt8)) (k : Nat), (l.take k).idxOf x < (l.take k).length → l.idxOf x = (l.take k).idxOf x
  | [], k, h => by simp at h
  | y :: l, 0, h => by simp at h
  | y :: l, k + 1, h => by
    rw [List.take_succ_cons] at h ⊢
    rw [List.idxOf_cons] at h
    rw [List.idxOf_cons, List.idxOf_cons]
    cases hy : (y == x) with
    | true => rfl
    | false =>
      rw [hy] at h
      simp only [cond_false, List.length_cons] at h ⊢
      rw [idx_take l k (by omega)]
theorem idx_drop {x : List UInt8} : ∀ (l : List (List UInt8)) (k : Nat), ¬ (l.take k).idxOf x < (l.take k).length → k ≤ l.length → l.idxOf x = k + (l.drop k).idxOf x
  | l, 0, _, _ => by simp
  | [], k + 1, _, hk => by simp at hk
  | y :: l, k + 1, h, hk => by
    rw [List.take_succ_cons, List.idxOf_cons] at h
    rw [List.idxOf_cons, List.drop_succ_cons]
    cases hy : (y == x) with
    | true => rw [hy] at h; simp at h
    | false =>
      rw [hy] at h
      simp only [cond_false, List.length_cons] at h ⊢
      rw [idx_drop l k (by omega) (by simpa using hk)]
      omega
theorem field_num {x : List UInt8} (h : fieldNums.idxOf x < 13) : fieldNames.idxOf x = fieldNums.idxOf x ∧ x ≠ idW := by
  have h1 : fieldNames.idxOf x = fieldNums.idxOf x := idx_take fieldNames 13 h
  refine ⟨h1, ?_⟩
  rintro rfl
  have : fieldNums.idxOf idW = 13 := by decide
  omega
theorem field_no {x : List UInt8} (h : ¬ fieldNums.idxOf x < 13) (hx : x ≠ idW) : ¬ fieldNames.idxOf x < 14 := by
  have h1 : fieldNames.idxOf x = 13 + (fieldNames.drop 13).idxOf x := idx_drop fieldNames 13 h (by decide)
  have h2 : (fieldNames.drop 13).idxOf x = 1 := by
    show ([idW] : List (List UInt8)).idxOf x = 1
    rw [List.idxOf_cons, show (idW == x) = false from by simpa using fun e => hx e.symm]
    rfl
  omega
theorem field_id : fieldNames.idxOf idW = 13 := by decide
theorem field_status : fieldNames.idxOf statusW = 2 := by decide
theorem field_is_status {x : List UInt8} (h : fieldNames.idxOf x = 2) : x = statusW := by
  have := idx_lt (x := x) (l := fieldNames) (by rw [h]; decide)
  rw [h] at this
  exact this.symm
/-! ## marks, texts in quotes -/
theorem take_lex {s : List UInt8} (p : Nat) : textOf s (lex s p) = (s.drop (startOf s p)).take (lexRest (s.drop (startOf s p))).2 := by
  unfold textOf lex
  simp only []
  rw [Nat.add_sub_cancel_left]
theorem mark_text {s : List UInt8} {p : Nat} (h : (lex s p).kind = .mark) : textOf s (lex s p) = wOpen ∨ textOf s (lex s p) = wClose ∨ askNames.idxOf (textOf s (lex s p)) < 6 := by
  rw [take_lex]
  have h : (lexRest (s.drop (startOf s p))).1 = .mark := h
  generalize s.drop (startOf s p) = l at h
  cases l with
  | nil => cases h
  | cons c r =>
    have h : (lexCons c r).1 = .mark := h
    show (c :: r).take (lexCons c r).2 = _ ∨ (c :: r).take (lexCons c r).2 = _ ∨ askNames.idxOf ((c :: r).take (lexCons c r).2) < 6
    have hc : ∀ {k : Nat} (hk : k < 256), c.toNat = k → c = UInt8.ofNat k := fun hk e => by rw [← e]; exact (UInt8.ofNat_toNat).symm
    unfold lexCons at h ⊢
    split at h
    · cases h
    rename_i h1
    rw [if_neg h1]
    split at h
    · split at h <;> cases h
    rename_i h2
    rw [if_neg h2]
    split at h
    · split at h <;> cases h
    rename_i h3
    rw [if_neg h3]
    split at h
    · rename_i h4
      rw [if_pos h4]
      rcases h4 with h4 | h4 | h4
      · rw [hc (by omega) h4]; exact .inl rfl
      · rw [hc (by omega) h4]; exact .inr (.inl rfl)
      · rw [hc (by omega) h4]; exact .inr (.inr (by show askNames.idxOf [61] < 6; decide))
    rename_i h4
    rw [if_neg h4]
    split at h
    · rename_i h5
      rw [if_pos h5]
      split at h
      · rename_i h6
        rw [if_pos h6]
        cases r with
        | nil => cases h6
        | cons x r =>
          cases h6
          rcases h5 with h5 | h5 | h5
          · rw [hc (by omega) h5]; exact .inr (.inr (by show askNames.idxOf [33, 61] < 6; decide))
          · rw [hc (by omega) h5]; exact .inr (.inr (by show askNames.idxOf [60, 61] < 6; decide))
          · rw [hc (by omega) h5]; exact .inr (.inr (by show askNames.idxOf [62, 61] < 6; decide))
      · rename_i h6
        rw [if_neg h6]
        split at h
        · cases h
        · rename_i h7
          rw [if_neg h7]
          rcases h5 with h5 | h5 | h5
          · exact (h7 h5).elim
          · rw [hc (by omega) h5]; exact .inr (.inr (by show askNames.idxOf [60] < 6; decide))
          · rw [hc (by omega) h5]; exact .inr (.inr (by show askNames.idxOf [62] < 6; decide))
    · cases h
theorem dropWhile_none {q : UInt8 → Bool} : ∀ {l : List UInt8}, l.all (fun c => !q c) = true → l.dropWhile q = l
  | [], _ => rfl
  | c :: l, h => by
    rw [List.all_cons, Bool.and_eq_true] at h
    rw [List.dropWhile_cons, if_neg (by simpa using h.1)]
theorem trim_quoted {l : List UInt8} (h : l.all notQuote = true) : Lib.trimB (34 :: (l ++ [34])) 34 = l := by
  have hq : ∀ m : List UInt8, m.all notQuote = true → m.all (fun c => !(c == 34)) = true := by
    intro m hm
    rw [List.all_eq_true] at hm ⊢
    intro c hc
    have := hm c hc
    unfold notQuote at this
    simp only [decide_eq_true_eq] at this
    simp only [Bool.not_eq_true', beq_eq_false_iff_ne, ne_eq]
    rintro rfl
    exact this rfl
  unfold Lib.trimB Lib.trimLeftB Lib.trimRightB
  have e1 : (34 :: (l ++ [34])).reverse = 34 :: (l.reverse ++ [34]) := by simp
  rw [e1, List.dropWhile_cons, if_pos (by decide)]
  cases l with
  | nil => rfl
  | cons c r =>
    have hr : ((c :: r).reverse).all notQuote = true := by rw [List.all_reverse]; exact h
    have e2 : ((c :: r).reverse ++ [34]).dropWhile (· == 34) = (c :: r).reverse ++ [34] := by
      cases hx : (c :: r).reverse with
      | nil => simp at hx
      | cons x y =>
        rw [hx, List.all_cons, Bool.and_eq_true] at hr
        have := hq [x] (by simp [hr.1])
        rw [List.cons_append, List.dropWhile_cons, if_neg (by simpa using this)]
    rw [e2]
    have e3 : ((c :: r).reverse ++ [34]).reverse = 34 :: (c :: r) := by simp
    rw [e3, List.dropWhile_cons, if_pos (by decide)]
    exact dropWhile_none (hq _ h)
theorem quoted_text {s : List UInt8} {p : Nat} (h : (lex s p).kind = .quoted) : ∃ l, textOf s (lex s p) = 34 :: (l ++ [34]) ∧ l.all notQuote = true ∧ l.length ≤ 64 := by
  rw [take_lex]
  have h : (lexRest (s.drop (startOf s p))).1 = .quoted := h
  generalize s.drop (startOf s p) = l at h
  cases l with
  | nil => cases h
  | cons c r =>
    have h : (lexCons c r).1 = .quoted := h
    show ∃ l, (c :: r).take (lexCons c r).2 = _ ∧ _
    unfold lexCons at h ⊢
    split at h
    · cases h
    rename_i h1
    rw [if_neg h1]
    split at h
    · split at h <;> cases h
    rename_i h2
    rw [if_neg h2]
    split at h
    · rename_i h4
      rw [if_pos h4]
      split at h
      · rename_i h5
        rw [if_pos h5]
        have hc : c = 34 := by rw [show (34 : UInt8) = UInt8.ofNat 34 from rfl, ← h4]; exact (UInt8.ofNat_toNat).symm
        obtain ⟨n, hn⟩ : ∃ n, runLen notQuote r = n := ⟨_, rfl⟩
        have hlt : n < r.length := by rw [← hn]; exact h5.1
        refine ⟨r.take n, ?_, by rw [← hn]; exact runLen_all _ _, by rw [List.length_take]; omega⟩
        rw [hn, hc, List.take_succ_cons, List.take_add_one, List.getElem?_eq_getElem hlt]
        have : r[n] = 34 := by
          have key : ∀ (r : List UInt8) (n : Nat), runLen notQuote r = n → (hlt : n < r.length) → r[n] = 34 := by
            intro r
            induction r with
            | nil => intro n _ hlt; simp at hlt
            | cons x r ih =>
              intro n hn hlt
              unfold runLen at hn
              split at hn
              · obtain ⟨m, rfl⟩ : ∃ m, n = m + 1 := ⟨_, hn.symm⟩
                have hm : runLen notQuote r = m := by omega
                simpa using ih m hm (by simpa using hlt)
              · rename_i hx
                subst hn
                unfold notQuote at hx
                have hx : x.toNat = 34 := by simpa using hx
                show x = 34
                rw [show (34 : UInt8) = UInt8.ofNat 34 from rfl, ← hx]
                exact (UInt8.ofNat_toNat).symm
          exact key r n hn hlt
        rw [this]
        rfl
      · cases h
    · (repeat' split at h) <;> cases h
end Go.Proofs.YtkblkdnihppmnaaGreatDoor.Filt
/- Filters (layer 21): the document's numbers. No program in sight. -/
namespace Go.Proofs.YtkblkdnihppmnaaGreatDoor.Filt
set_option linter.unusedSimpArgs false
set_option linter.unusedVariables false
open Go

theorem digit_nat {c : UInt8} (h : isDigit c = true) : 48 ≤ c.toNat ∧ c.toNat ≤ 57 := of_decide_eq_true h
theorem all_at {q : UInt8 → Bool} {l : List UInt8} (h : l.all q = true) {i : Nat} {c : UInt8} (hc : l[i]? = some c) : q c = true := by
  obtain ⟨hi, rfl⟩ := List.getElem?_eq_some_iff.1 hc
  exact List.all_eq_true.1 h _ (List.getElem_mem hi)
theorem ne45_of {l : List UInt8} (h : l.all isDigit = true) : ∀ r, l ≠ 45 :: r := by
  rintro r rfl
  rw [List.all_cons, Bool.and_eq_true] at h
  have := digit_nat h.1
  have e : (45 : UInt8).toNat = 45 := rfl
  omega
theorem decVal_take {l : List UInt8} {i : Nat} {c : UInt8} (h : l[i]? = some c) : decVal (l.take (i + 1)) = 10 * decVal (l.take i) + (c.toNat - 48) := by
  rw [List.take_add_one, h]
  exact decVal_snoc _ _
theorem decVal_lt : ∀ {n : Nat} {l : List UInt8}, l.length = n → l.all isDigit = true → decVal l < 10 ^ n
  | 0, l, hl, _ => by
    obtain rfl := List.eq_nil_of_length_eq_zero hl
    decide
  | n + 1, l, hl, h => by
    rcases List.eq_nil_or_concat l with rfl | ⟨r, c, rfl⟩
    · simp at hl
    rw [List.concat_eq_append] at *
    rw [List.all_append, Bool.and_eq_true] at h
    have i := decVal_lt (n := n) (l := r) (by simpa using hl) h.1
    have hc := digit_nat (c := c) (by simpa using h.2)
    rw [decVal_snoc, Nat.pow_succ]
    omega
theorem decVal_ge : ∀ {n : Nat} {l : List UInt8}, l.length = n + 1 → l.all isDigit = true → l.head? ≠ some 48 → 10 ^ n ≤ decVal l
  | 0, l, hl, h, h0 => by
    match l, hl with
    | [c], _ =>
      have hc := digit_nat (c := c) (by simpa using h)
      have : c.toNat ≠ 48 := fun e => h0 (congrArg some (UInt8.toNat_inj.1 e))
      show 1 ≤ 10 * 0 + (c.toNat - 48)
      omega
  | n + 1, l, hl, h, h0 => by
    rcases List.eq_nil_or_concat l with rfl | ⟨r, c, rfl⟩
    · simp at hl
    rw [List.concat_eq_append] at *
    rw [List.all_append, Bool.and_eq_true] at h
    have hrl : r.length = n + 1 := by simpa using hl
    have i := decVal_ge (n := n) (l := r) hrl h.1 (by
      cases r with
      | nil => simp at hrl
      | cons a r => simpa using h0)
    rw [decVal_snoc, Nat.pow_succ]
    omega
/-- what the document makes of digits -/
def numDig (l : List UInt8) : Option Int :=
  if l = [] ∨ 19 < l.length ∨ (1 < l.length ∧ l.head? = some 48) then none else if decVal l ≤ 9223372036854775807 then some (decVal l : Int) else none
theorem mag_iff {l : List UInt8} (h : l.all isDigit = true) : magOk l = true ↔ l ≠ [] ∧ ¬ (1 < l.length ∧ l.head? = some 48) := by
  unfold magOk
  rw [h]
  cases l with
  | nil => simp
  | cons c r =>
    cases r with
    | nil => simp
    | cons d r => simp
theorem numDig_eq {l : List UInt8} (h : l.all isDigit = true) : numOf l = numDig l := by
  rw [numOf_plain (ne45_of h)]
  unfold numDig
  by_cases h1 : l = [] ∨ 19 < l.length ∨ (1 < l.length ∧ l.head? = some 48)
  · rw [if_pos h1]
    refine if_neg ?_
    rw [Bool.and_eq_true, mag_iff h, decide_eq_true_eq]
    rintro ⟨⟨h2, h3⟩, h4⟩
    rcases h1 with h1 | h1 | h1
    · exact h2 h1
    · have := decVal_ge (n := l.length - 1) (l := l) (by omega) h (fun e => h3 ⟨by omega, e⟩)
      have h5 : 10 ^ 19 ≤ 10 ^ (l.length - 1) := Nat.pow_le_pow_right (by omega) (by omega)
      omega
    · exact h3 h1
  · rw [if_neg h1]
    have h2 : magOk l = true := (mag_iff h).2 ⟨fun e => h1 (.inl e), fun e => h1 (.inr (.inr e))⟩
    rw [h2, Bool.true_and]
    by_cases h3 : decVal l ≤ 9223372036854775807
    · rw [if_pos (by simpa using h3), if_pos h3]
    · rw [if_neg (by simpa using h3), if_neg h3]
/-- the least number's digits -/
def min63 : List UInt8 := [57, 50, 50, 51, 51, 55, 50, 48, 51, 54, 56, 53, 52, 55, 55, 53, 56, 48, 56]
theorem min63_dec : decVal min63 = 9223372036854775808 := by decide
theorem min63_of {l : List UInt8} (h : l.all isDigit = true) (hm : magOk l = true) (hv : decVal l = 9223372036854775808) : l = min63 := by
  have h1 := (mag_iff h).1 hm
  have h2 := decDigits_first l h h1.1 (by
    by_cases e : l.length = 1
    · exact .inl e
    · refine .inr fun e2 => h1.2 ⟨?_, e2⟩
      have : l.length ≠ 0 := fun e3 => h1.1 (List.eq_nil_of_length_eq_zero e3)
      omega)
  have h3 := decDigits_first min63 (by decide) (by decide) (by decide)
  rw [← h2, hv, ← min63_dec, h3]
theorem numMinus_eq {r : List UInt8} (h : r.all isDigit = true) (hn : r ≠ min63) : numOf (45 :: r) = match numDig r with | some n => if 0 < n then some (-n) else none | none => none := by
  rw [← numDig_eq h, numOf_plain (ne45_of h)]
  show (if magOk r && decide (0 < decVal r) && decide (decVal r ≤ 9223372036854775808) then some (-(decVal r : Int)) else none) = _
  by_cases h1 : magOk r = true
  · rw [h1]
    simp only [Bool.true_and]
    have h2 : decVal r ≠ 9223372036854775808 := fun e => hn (min63_of h h1 e)
    by_cases h3 : decVal r ≤ 9223372036854775807
    · have h4 : decVal r ≤ 9223372036854775808 := by omega
      have h5 : decide (decVal r ≤ 9223372036854775807) = true := by simpa using h3
      have h6 : decide (decVal r ≤ 9223372036854775808) = true := by simpa using h4
      rw [h5, h6]
      simp only [Bool.and_true, if_true, decide_eq_true_eq]
      by_cases h7 : 0 < decVal r
      · rw [if_pos h7, if_pos (by omega)]
      · rw [if_neg h7, if_neg (by omega)]
    · have h4 : ¬ decVal r ≤ 9223372036854775808 := by omega
      have h5 : decide (decVal r ≤ 9223372036854775807) = false := by simpa using h3
      have h6 : decide (decVal r ≤ 9223372036854775808) = false := by simpa using h4
      rw [h5, h6]
      simp
  · have h1 : magOk r = false := by simpa using h1
    rw [h1]
    simp
theorem numMin : numOf (45 :: min63) = some (-9223372036854775808) := by decide
/-! ## what the document makes of any text -/
theorem num_nodigits {l : List UInt8} (h : l.all isDigit = false) (h45 : ∀ r, l ≠ 45 :: r) : numOf l = none := by
  rw [numOf_plain h45]
  have : magOk l = false := by unfold magOk; rw [h]; simp
  rw [this]
  rfl
theorem num_minus_no {r : List UInt8} (h : r.all isDigit = false) : numOf (45 :: r) = none := by
  show (if magOk r && decide (0 < decVal r) && decide (decVal r ≤ 9223372036854775808) then some (-(decVal r : Int)) else none) = _
  have : magOk r = false := by unfold magOk; rw [h]; simp
  rw [this]
  rfl
/-- what a text behind a minus makes of the number -/
theorem num_minus {r : List UInt8} (hn : r ≠ min63) : numOf (45 :: r) = match numOf r with | some n => if 0 < n then some (-n) else none | none => none := by
  by_cases h : r.all isDigit = true
  · rw [numMinus_eq h hn, numDig_eq h]
  · have h : r.all isDigit = false := by simpa using h
    rw [num_minus_no h]
    by_cases h45 : ∃ r', r = 45 :: r'
    · obtain ⟨r', rfl⟩ := h45
      cases hx : numOf (45 :: r') with
      | none => rfl
      | some n =>
        have hx : (if magOk r' && decide (0 < decVal r') && decide (decVal r' ≤ 9223372036854775808) then some (-(decVal r' : Int)) else none) = some n := hx
        split at hx
        · rename_i hc
          simp only [Bool.and_eq_true, decide_eq_true_eq] at hc
          cases hx
          simp only []
          rw [if_neg (by omega)]
        · cases hx
    · rw [num_nodigits h (fun r' e => h45 ⟨r', e⟩)]
theorem num_nil : numOf [] = none := by decide
theorem num_long {l : List UInt8} (h : 19 < l.length) (h45 : ∀ r, l ≠ 45 :: r) : numOf l = none := by
  by_cases hd : l.all isDigit = true
  · rw [numDig_eq hd]; exact if_pos (.inr (.inl h))
  · exact num_nodigits (by simpa using hd) h45
theorem num_zero {r : List UInt8} (h : r ≠ []) : numOf (48 :: r) = none := by
  by_cases hd : (48 :: r).all isDigit = true
  · rw [numDig_eq hd]
    refine if_pos (.inr (.inr ⟨?_, rfl⟩))
    have : r.length ≠ 0 := fun e => h (List.eq_nil_of_length_eq_zero e)
    simp only [List.length_cons]
    omega
  · exact num_nodigits (by simpa using hd) (by rintro r' e; cases e)
theorem num_digits {l : List UInt8} (h : l.all isDigit = true) (h0 : l ≠ []) (h1 : l.length ≤ 19) (h2 : ¬ (1 < l.length ∧ l.head? = some 48)) : numOf l = if decVal l ≤ 9223372036854775807 then some (decVal l : Int) else none := by
  rw [numDig_eq h]
  unfold numDig
  refine if_neg ?_
  rintro (h3 | h3 | h3)
  · exact h0 h3
  · omega
  · exact h2 h3
/-- what the document's Number hands back, whatever the text -/
def numR : List UInt8 → Int × Bool
  | [] => (0, false)
  | c :: r => if c = 45 ∧ r ≠ [] then (if r = min63 then (-9223372036854775808, true) else (IntKind.i64.wrap (-(numR r).1), (numR r).2 && decide (0 < (numR r).1)))
    else match numOf (c :: r) with
    | some n => (n, true)
    | none => (0, false)
theorem numR_plain {s : List UInt8} (h : ∀ r, r ≠ [] → s ≠ 45 :: r) : numR s = match numOf s with | some n => (n, true) | none => (0, false) := by
  cases s with
  | nil => rw [num_nil]; rfl
  | cons c r =>
    unfold numR
    rw [if_neg]
    rintro ⟨rfl, h2⟩
    exact h r h2 rfl
theorem numR_min : numR (45 :: min63) = (-9223372036854775808, true) := by
  unfold numR
  rw [if_pos ⟨rfl, by decide⟩, if_pos rfl]
theorem numR_minus {r : List UInt8} (h0 : r ≠ []) (hm : r ≠ min63) : numR (45 :: r) = (IntKind.i64.wrap (-(numR r).1), (numR r).2 && decide (0 < (numR r).1)) := by
  rw [numR, if_pos ⟨rfl, h0⟩, if_neg hm]
theorem numR_of : ∀ s : List UInt8, (numR s).2 = (numOf s).isSome ∧ ∀ n, numOf s = some n → (numR s).1 = n
  | [] => by rw [num_nil]; exact ⟨rfl, by simp⟩
  | c :: r => by
    by_cases h : c = 45 ∧ r ≠ []
    · obtain ⟨rfl, h0⟩ := h
      by_cases hm : r = min63
      · subst hm
        rw [numR_min, numMin]
        exact ⟨rfl, fun n hn => by cases hn; rfl⟩
      · have ih := numR_of r
        rw [numR_minus h0 hm, num_minus hm]
        dsimp only
        cases hx : numOf r with
        | none =>
          rw [hx] at ih
          rw [ih.1]
          exact ⟨rfl, by simp⟩
        | some n =>
          rw [hx] at ih
          rw [ih.1, ih.2 n rfl]
          by_cases hn : 0 < n
          · have hb := numOf_i64 hx
            have hb1 := hb.1
            have hb2 := hb.2
            have hw : IntKind.i64.wrap (-n) = -n := IntWalk.i64_in _ (by omega)
            simp only [hn, decide_true, Bool.and_true, Option.isSome_some, if_true, hw]
            exact ⟨trivial, fun m hm => by cases hm; rfl⟩
          · simp only [hn, decide_false, Bool.and_false, if_false]
            exact ⟨rfl, by simp⟩
    · rw [numR_plain (fun r' h' e => h ⟨(List.cons.inj e).1, by rw [(List.cons.inj e).2]; exact h'⟩)]
      cases numOf (c :: r) with
      | none => exact ⟨rfl, by simp⟩
      | some n => exact ⟨rfl, fun m hm => by cases hm; rfl⟩
theorem numR_some {s : List UInt8} {n : Int} (h : numOf s = some n) : numR s = (n, true) := by
  have := numR_of s
  rw [h] at this
  exact Prod.ext (this.2 n rfl) this.1
theorem digit_byte {u : Nat} (h : u < 10) : Lib.decDigits u = [UInt8.ofNat (48 + u)] := Lib.decDigits_one h
theorem digits_step {u : Nat} (h : ¬ u < 10) : Lib.decDigits u = Lib.decDigits (u / 10) ++ [UInt8.ofNat (48 + u % 10)] := by rw [Lib.decDigits, dif_neg h]
/-! ## places in lists -/
def refFind (fs : List (List UInt8)) (x : List UInt8) : Int := if x ≠ [] ∧ fs.idxOf x < fs.length then fs.idxOf x else -1
/-! ## blanks alone -/
end Go.Proofs.YtkblkdnihppmnaaGreatDoor.Filt
/- Filters (layer 21): words and marks, by their texts; the document's test. No program in sight. -/
namespace Go.Proofs.YtkblkdnihppmnaaGreatDoor.Filt
set_option linter.unusedSimpArgs false
set_option linter.unusedVariables false

theorem word_head {s : List UInt8} {p : Nat} (h : (lex s p).kind = .word) : ∃ c r, textOf s (lex s p) = c :: r ∧ isSmall c = true := by
  have hk : (lexRest (s.drop (startOf s p))).1 = .word := h
  rw [take_lex]
  cases hd : s.drop (startOf s p) with
  | nil => rw [hd] at hk; cases hk
  | cons c r =>
    rw [hd] at hk
    have hk : (lexCons c r).1 = .word := hk
    show ∃ c' r', (c :: r).take (lexCons c r).2 = c' :: r' ∧ _
    by_cases hs : isSmall c = true
    · have e : lexCons c r = (.word, runLen isAln r + 1) := if_pos hs
      rw [e]
      exact ⟨c, _, rfl, hs⟩
    · exfalso
      unfold lexCons at hk
      rw [if_neg hs] at hk
      split at hk
      · split at hk <;> cases hk
      · split at hk
        · split at hk <;> cases hk
        · split at hk
          · cases hk
          · split at hk
            · split at hk
              · cases hk
              · split at hk <;> cases hk
            · cases hk
theorem isOpen_iff {s : List UInt8} {p : Nat} : isWord s p wOpen ↔ (lex s p).kind = .mark ∧ textOf s (lex s p) = wOpen := by
  constructor
  · rintro ⟨h | h, ht⟩
    · obtain ⟨c, r, e, hc⟩ := word_head h
      rw [ht] at e
      have : c = 40 := (List.cons.inj e).1.symm
      subst this
      cases hc
    · exact ⟨h, ht⟩
  · rintro ⟨h, ht⟩
    exact ⟨.inr h, ht⟩
theorem isNot_iff {s : List UInt8} {p : Nat} : isWord s p wNot ↔ (lex s p).kind = .word ∧ textOf s (lex s p) = wNot := by
  constructor
  · rintro ⟨h | h, ht⟩
    · exact ⟨h, ht⟩
    · exfalso
      rcases mark_text h with e | e | e
      · rw [ht] at e; cases e
      · rw [ht] at e; cases e
      · rw [ht] at e; exact absurd e (by decide)
  · rintro ⟨h, ht⟩
    exact ⟨.inl h, ht⟩
section
variable {s : List UInt8}
theorem testF_of {p : Nat} : (lang s).test false p = testG (lang s).adv (atOf s) (isField s) (isAsk s) (fun p p1 p2 => testVal s (fieldOf s p) (askOf s p1) p2) false p := rfl
theorem testF_noField {p : Nat} (h : ¬ isField s p) : (lang s).test false p = .fail (lex s p).at_ := by
  rw [testF_of]; unfold testG; exact if_neg h
theorem testF_noAsk {p : Nat} (h : isField s p) (hk : ¬ isAsk s (lex s p).next) : (lang s).test false p = .fail (lex s (lex s p).next).at_ := by
  rw [testF_of]; unfold testG; rw [if_pos h, adv_lazy]; exact if_neg hk
theorem testF_none {p : Nat} (h : isField s p) (hk : isAsk s (lex s p).next) (hv : testVal s (fieldOf s p) (askOf s (lex s p).next) (lex s (lex s p).next).next = none) : (lang s).test false p = .fail (lex s (lex s (lex s p).next).next).at_ := by
  rw [testF_of]; unfold testG; rw [if_pos h, adv_lazy]
  dsimp only []
  rw [if_pos (show isAsk s ((lang s).next p) from hk), adv_lazy]
  dsimp only []
  rw [show testVal s (fieldOf s p) (askOf s ((lang s).next p)) ((lang s).next ((lang s).next p)) = none from hv]
  rfl
theorem testF_ok {p : Nat} {n : Nd} (h : isField s p) (hk : isAsk s (lex s p).next) (hv : testVal s (fieldOf s p) (askOf s (lex s p).next) (lex s (lex s p).next).next = some n) : (lang s).test false p = .ok n (lex s (lex s (lex s p).next).next).next := by
  rw [testF_of]; unfold testG; rw [if_pos h, adv_lazy]
  dsimp only []
  rw [if_pos (show isAsk s ((lang s).next p) from hk), adv_lazy]
  dsimp only []
  rw [show testVal s (fieldOf s p) (askOf s ((lang s).next p)) ((lang s).next ((lang s).next p)) = some n from hv]
  dsimp only []
  rw [adv_lazy]
  rfl
end
end Go.Proofs.YtkblkdnihppmnaaGreatDoor.Filt
