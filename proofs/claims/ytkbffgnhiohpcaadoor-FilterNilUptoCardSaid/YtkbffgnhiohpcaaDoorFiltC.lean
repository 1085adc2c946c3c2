/- Filters (layer 21): texts in brackets, put together (the plain law of FilterLogic). No program in sight. -/
import Derived.Test.YtkbffgnhiohpcaaDoorFiltB
namespace Go.Proofs.YtkbffgnhiohpcaaDoor.Filt
set_option linter.unusedSimpArgs false
set_option linter.unusedVariables false

theorem runLen_le (p : UInt8 → Bool) : ∀ l, runLen p l ≤ l.length
  | [] => Nat.le_refl _
  | c :: l => by unfold runLen; split <;> simp; exact runLen_le p l
/-- a run is not longer where something else stands behind -/
theorem runLen_app {p : UInt8 → Bool} {c : UInt8} (hc : p c = false) (m : List UInt8) : ∀ l, runLen p (l ++ c :: m) = runLen p l
  | [] => by simp [runLen, hc]
  | x :: l => by
    simp only [List.cons_append, runLen]
    split
    · rw [runLen_app hc m l]
    · rfl
theorem runLen_in {p : UInt8 → Bool} (m : List UInt8) : ∀ l, runLen p l < l.length → runLen p (l ++ m) = runLen p l
  | [], h => by simp at h
  | x :: l, h => by
    simp only [List.cons_append, runLen] at h ⊢
    split
    · rename_i h1
      rw [if_pos h1] at h
      rw [runLen_in m l (by simpa using h)]
    · rfl
theorem drop_runLen {p : UInt8 → Bool} : ∀ l : List UInt8, (l.drop (runLen p l)).head?.all (fun c => !p c) = true
  | [] => rfl
  | x :: l => by
    unfold runLen
    split
    · exact drop_runLen l
    · rename_i h; simp [h]
/-- the token of a rest, where a closing bracket stands behind -/
theorem lexRest_app (m : List UInt8) {l : List UInt8} (hl : l ≠ []) (hb : (lexRest l).1 ≠ .bad) : lexRest (l ++ 41 :: m) = lexRest l := by
  cases l with
  | nil => exact (hl rfl).elim
  | cons c r =>
    have a1 : runLen isAln (r ++ 41 :: m) = runLen isAln r := runLen_app (by decide) m r
    have a2 : runLen isDigit (r ++ 41 :: m) = runLen isDigit r := runLen_app (by decide) m r
    have a3 : (r ++ 41 :: m).take (runLen isDigit r) = r.take (runLen isDigit r) := List.take_append_of_le_length (runLen_le _ _)
    rw [List.cons_append]
    show lexCons c (r ++ 41 :: m) = lexCons c r
    replace hb : (lexCons c r).1 ≠ .bad := hb
    unfold lexCons at hb ⊢
    rw [a1, a2, a3]
    split
    · rfl
    · rename_i h1
      rw [if_neg h1] at hb
      split
      · rfl
      · rename_i h2
        rw [if_neg h2] at hb
        split
        · rename_i h3
          rw [if_pos h3] at hb
          by_cases h4 : runLen notQuote r < r.length ∧ runLen notQuote r ≤ 64
          · have := runLen_in (p := notQuote) (41 :: m) r h4.1
            rw [this, if_pos h4, if_pos ⟨by simp; omega, h4.2⟩]
          · rw [if_neg h4] at hb
            exact (hb rfl).elim
        · rename_i h3
          rw [if_neg h3] at hb
          split
          · rfl
          · rename_i h4
            rw [if_neg h4] at hb
            split
            · rename_i h5
              cases r with
              | nil => simp
              | cons y r => simp
            · rfl
theorem lexRest_len {l : List UInt8} (hb : (lexRest l).1 ≠ .bad) : (lexRest l).2 ≤ l.length := by
  cases l with
  | nil => exact Nat.le_refl _
  | cons c r =>
    have a1 := runLen_le isAln r
    have a2 := runLen_le isDigit r
    show (lexCons c r).2 ≤ _
    replace hb : (lexCons c r).1 ≠ .bad := hb
    unfold lexCons at hb ⊢
    simp only [List.length_cons]
    split
    · simp; omega
    · rename_i h1
      rw [if_neg h1] at hb
      split
      · simp; omega
      · rename_i h2
        rw [if_neg h2] at hb
        split
        · rename_i h3
          rw [if_pos h3] at hb
          split
          · simp; omega
          · rename_i h4; rw [if_neg h4] at hb; exact (hb rfl).elim
        · split
          · simp
          · split
            · split
              · rename_i h6
                cases r with
                | nil => simp at h6
                | cons y r => simp
              · split <;> simp
            · simp
theorem lexRest_end {l : List UInt8} : (lexRest l).1 = .ended ↔ l = [] := by
  constructor
  · intro h
    cases l with
    | nil => rfl
    | cons c r =>
      replace h : (lexCons c r).1 = .ended := h
      unfold lexCons at h
      (repeat' split at h) <;> cases h
  · rintro rfl; rfl

section
variable {pre s post : List UInt8}
/-- a text in brackets, within another -/
abbrev ctx (pre s post : List UInt8) : List UInt8 := pre ++ (s ++ 41 :: post)
theorem ctx_drop {p : Nat} (hp : p ≤ s.length) : (ctx pre s post).drop (pre.length + p) = s.drop p ++ 41 :: post := by
  rw [List.drop_append, List.drop_eq_nil_of_le (by omega), List.nil_append, show pre.length + p - pre.length = p by omega, List.drop_append_of_le_length hp]
theorem ctx_start {p : Nat} (hp : p ≤ s.length) : startOf (ctx pre s post) (pre.length + p) = pre.length + startOf s p := by
  unfold startOf
  rw [ctx_drop hp, runLen_app (by decide)]
  omega
theorem start_le {p : Nat} (hp : p ≤ s.length) : startOf s p ≤ s.length := by
  unfold startOf
  have := runLen_le isBlank (s.drop p)
  rw [List.length_drop] at this
  omega
theorem ctx_end {p : Nat} (hp : p ≤ s.length) (he : (lex s p).kind = .ended) : lex (ctx pre s post) (pre.length + p) = ⟨.mark, pre.length + s.length, pre.length + s.length + 1⟩ ∧ textOf (ctx pre s post) (lex (ctx pre s post) (pre.length + p)) = wClose := by
  have h1 : s.drop (startOf s p) = [] := lexRest_end.1 he
  have h2 : startOf s p = s.length := Nat.le_antisymm (start_le hp) (List.drop_eq_nil_iff.1 h1)
  have h3 : lex (ctx pre s post) (pre.length + p) = ⟨.mark, pre.length + s.length, pre.length + s.length + 1⟩ := by
    unfold lex
    rw [ctx_start hp, h2, ctx_drop (Nat.le_refl _), List.drop_length]
    rfl
  refine ⟨h3, ?_⟩
  rw [h3]
  unfold textOf
  simp only []
  rw [ctx_drop (Nat.le_refl _), List.drop_length, show pre.length + s.length + 1 - (pre.length + s.length) = 1 by omega]
  rfl
theorem next_le {p : Nat} (hp : p ≤ s.length) (hb : (lex s p).kind ≠ .bad) : (lex s p).at_ ≤ (lex s p).next ∧ (lex s p).next ≤ s.length := by
  have h1 := start_le hp
  have h2 := lexRest_len (l := s.drop (startOf s p)) hb
  rw [List.length_drop] at h2
  unfold lex
  simp only []
  omega
theorem ctx_in {p : Nat} (hp : p ≤ s.length) (hb : (lex s p).kind ≠ .bad) (he : (lex s p).kind ≠ .ended) :
    lex (ctx pre s post) (pre.length + p) = ⟨(lex s p).kind, pre.length + (lex s p).at_, pre.length + (lex s p).next⟩ ∧ textOf (ctx pre s post) (lex (ctx pre s post) (pre.length + p)) = textOf s (lex s p) := by
  have hs := start_le hp
  have hne : s.drop (startOf s p) ≠ [] := fun h => he (lexRest_end.2 h)
  have h3 : lex (ctx pre s post) (pre.length + p) = ⟨(lex s p).kind, pre.length + (lex s p).at_, pre.length + (lex s p).next⟩ := by
    unfold lex
    rw [ctx_start hp, ctx_drop hs, lexRest_app post hne hb]
    simp only [Nat.add_assoc]
  refine ⟨h3, ?_⟩
  obtain ⟨n1, n2⟩ := next_le hp hb
  rw [h3]
  unfold textOf
  simp only []
  rw [ctx_drop (by omega), show pre.length + (lex s p).next - (pre.length + (lex s p).at_) = (lex s p).next - (lex s p).at_ by omega]
  exact List.take_append_of_le_length (by rw [List.length_drop]; omega)
theorem ctx_word {p : Nat} (hp : p ≤ s.length) (hb : (lex s p).kind ≠ .bad) {w : List UInt8} (hw : w ≠ wClose) : isWord (ctx pre s post) (pre.length + p) w ↔ isWord s p w := by
  by_cases he : (lex s p).kind = .ended
  · obtain ⟨h1, h2⟩ := ctx_end (pre := pre) (post := post) hp he
    constructor
    · rintro ⟨-, h⟩; rw [h2] at h; exact (hw h.symm).elim
    · rintro ⟨h | h, -⟩ <;> (rw [he] at h; cases h)
  · obtain ⟨h1, h2⟩ := ctx_in (pre := pre) (post := post) hp hb he
    unfold isWord
    rw [h2, h1]
theorem ctx_close {p : Nat} (hp : p ≤ s.length) (hb : (lex s p).kind ≠ .bad) (h : isWord s p wClose) : isWord (ctx pre s post) (pre.length + p) wClose := by
  have he : (lex s p).kind ≠ .ended := by
    intro he
    rcases h.1 with h | h <;> (rw [he] at h; cases h)
  obtain ⟨h1, h2⟩ := ctx_in (pre := pre) (post := post) hp hb he
  unfold isWord at h ⊢
  rw [h2, h1]
  exact h
theorem ctx_next {p : Nat} (hp : p ≤ s.length) (hb : (lex s p).kind ≠ .bad) (he : (lex s p).kind ≠ .ended) : nextOf (ctx pre s post) (pre.length + p) = pre.length + nextOf s p := by
  have := (ctx_in (pre := pre) (post := post) hp hb he).1
  unfold nextOf
  rw [this]
theorem word_ne {p : Nat} {w : List UInt8} (h : isWord s p w) : (lex s p).kind ≠ .ended := by
  intro he
  rcases h.1 with h | h <;> (rw [he] at h; cases h)
theorem testVal_ctx {f k p : Nat} (hp : p ≤ s.length) (hb : (lex s p).kind ≠ .bad) {n : Nd} (h : testVal s f k p = some n) : testVal (ctx pre s post) f k (pre.length + p) = some n := by
  have he : (lex s p).kind ≠ .ended := by
    intro he
    unfold testVal at h
    rw [he] at h
    simp at h
  obtain ⟨h1, h2⟩ := ctx_in (pre := pre) (post := post) hp hb he
  unfold testVal at h ⊢
  rw [h2, h1]
  exact h
end
section
variable {s : List UInt8}
theorem adv_look {p q : Nat} (h : (lang s).adv true p = .ok q) : q = nextOf s p ∧ (lex s q).kind ≠ .bad := adv_ok h
theorem test_ctx (pre post : List UInt8) {p q : Nat} {n : Nd} (hp : p ≤ s.length) (hb : (lex s p).kind ≠ .bad) (h : (lang s).test true p = .ok n q) :
    (lang (ctx pre s post)).test false (pre.length + p) = .ok n (pre.length + q) ∧ q ≤ s.length ∧ (lex s q).kind ≠ .bad := by
  have h : testG (lang s).adv (atOf s) (isField s) (isAsk s) (fun p p1 p2 => testVal s (fieldOf s p) (askOf s p1) p2) true p = .ok n q := h
  show testG (lang (ctx pre s post)).adv (atOf (ctx pre s post)) (isField (ctx pre s post)) (isAsk (ctx pre s post)) (fun p p1 p2 => testVal (ctx pre s post) (fieldOf (ctx pre s post) p) (askOf (ctx pre s post) p1) p2) false (pre.length + p) = _ ∧ _
  unfold testG at h ⊢
  split at h
  · rename_i h1
    have e1 : (lex s p).kind ≠ .ended := by rw [h1.1]; simp
    obtain ⟨c1, c2⟩ := ctx_in (pre := pre) (post := post) hp hb e1
    have f1 : fieldOf (ctx pre s post) (pre.length + p) = fieldOf s p := by unfold fieldOf; rw [c2]
    have h1' : isField (ctx pre s post) (pre.length + p) := by unfold isField; rw [f1, c1]; exact h1
    rw [if_pos h1', adv_lazy]
    split at h
    · cases h
    · rename_i p1 ha
      obtain ⟨rfl, b1⟩ := adv_look ha
      have l1 : nextOf s p ≤ s.length := (next_le hp hb).2
      have n1 : (lang (ctx pre s post)).next (pre.length + p) = pre.length + nextOf s p := ctx_next hp hb e1
      simp only [n1]
      split at h
      · rename_i h2
        have e2 : (lex s (nextOf s p)).kind ≠ .ended := by rw [h2.1]; simp
        obtain ⟨c3, c4⟩ := ctx_in (pre := pre) (post := post) l1 b1 e2
        have f2 : askOf (ctx pre s post) (pre.length + nextOf s p) = askOf s (nextOf s p) := by unfold askOf; rw [c4]
        have h2' : isAsk (ctx pre s post) (pre.length + nextOf s p) := by unfold isAsk; rw [f2, c3]; exact h2
        rw [if_pos (show isAsk (ctx pre s post) ((lang (ctx pre s post)).next (pre.length + p)) by rw [n1]; exact h2'), adv_lazy]
        split at h
        · cases h
        · rename_i p2 hb2
          obtain ⟨rfl, b2⟩ := adv_look hb2
          have l2 : nextOf s (nextOf s p) ≤ s.length := (next_le l1 b1).2
          have n2 : (lang (ctx pre s post)).next (pre.length + nextOf s p) = pre.length + nextOf s (nextOf s p) := ctx_next l1 b1 e2
          simp only [n2, f1, f2]
          split at h
          · cases h
          · rename_i m hv
            replace hv : testVal s (fieldOf s p) (askOf s (nextOf s p)) (nextOf s (nextOf s p)) = some m := hv
            have e3 : (lex s (nextOf s (nextOf s p))).kind ≠ .ended := by
              intro he
              unfold testVal at hv
              rw [he] at hv
              simp at hv
            rw [testVal_ctx l2 b2 hv]
            simp only [adv_lazy]
            split at h
            · cases h
            · rename_i p3 hb3
              obtain ⟨rfl, b3⟩ := adv_look hb3
              cases h
              have l3 : nextOf s (nextOf s (nextOf s p)) ≤ s.length := (next_le l2 b2).2
              have n3 : (lang (ctx pre s post)).next (pre.length + nextOf s (nextOf s p)) = pre.length + nextOf s (nextOf s (nextOf s p)) := ctx_next l2 b2 e3
              rw [n3]
              exact ⟨rfl, l3, b3⟩
      · cases h
  · cases h
/-- what is read of a text alone, is read of it in brackets: or nothing is -/
theorem reads_ctx (pre post : List UInt8) {nt : NT} {d p : Nat} {r : Res} (h : Reads (lang s) true nt d p r) : ∀ {n q}, r = .ok n q → p ≤ s.length → (lex s p).kind ≠ .bad →
    (q ≤ s.length ∧ (lex s q).kind ≠ .bad) ∧ ∀ {D r'}, Reads (lang (ctx pre s post)) false nt D (pre.length + p) r' → r' = .ok n (pre.length + q) ∨ ∃ a, r' = .fail a := by
  have W : ∀ {p} {w : List UInt8}, p ≤ s.length → (lex s p).kind ≠ .bad → w ≠ wClose → (isWord (ctx pre s post) (pre.length + p) w ↔ isWord s p w) := fun hp hb hw => ctx_word hp hb hw
  have wn : wNot ≠ wClose := by decide
  have wo : wOpen ≠ wClose := by decide
  have wa : wAnd ≠ wClose := by decide
  have wr : wOr ≠ wClose := by decide
  have N : ∀ {p w}, p ≤ s.length → (lex s p).kind ≠ .bad → isWord s p w → (lang (ctx pre s post)).next (pre.length + p) = pre.length + nextOf s p := fun hp hb hw => ctx_next hp hb (word_ne hw)
  induction h with
  | @test d p h1 h2 =>
    intro n q hr hp hb
    obtain ⟨c1, c2, c3⟩ := test_ctx pre post hp hb hr
    refine ⟨⟨c2, c3⟩, fun {D r'} h => ?_⟩
    cases h with
    | test => exact .inl c1
    | deep h => rcases h with h | h
                · exact (h1 ((W hp hb wn).1 h)).elim
                · exact (h2 ((W hp hb wo).1 h)).elim
    | notBad h => exact (h1 ((W hp hb wn).1 h)).elim
    | notOk h => exact (h1 ((W hp hb wn).1 h)).elim
    | notFail h => exact (h1 ((W hp hb wn).1 h)).elim
    | openBad _ h => exact (h2 ((W hp hb wo).1 h)).elim
    | openFail _ h => exact (h2 ((W hp hb wo).1 h)).elim
    | openNot _ h => exact (h2 ((W hp hb wo).1 h)).elim
    | openClose _ h => exact (h2 ((W hp hb wo).1 h)).elim
    | openOk _ h => exact (h2 ((W hp hb wo).1 h)).elim
  | deep => intro n q hr; cases hr
  | notBad => intro n q hr; cases hr
  | notFail => intro n q hr; cases hr
  | openBad => intro n q hr; cases hr
  | openFail => intro n q hr; cases hr
  | openNot => intro n q hr; cases hr
  | openClose => intro n q hr; cases hr
  | allFail => intro n q hr; cases hr
  | allBad => intro n q hr; cases hr
  | allNo => intro n q hr; cases hr
  | anyFail => intro n q hr; cases hr
  | anyBad => intro n q hr; cases hr
  | anyNo => intro n q hr; cases hr
  | @notOk d p p1 p2 m hw hd ha hr ih =>
    intro n q hr hp hb
    cases hr
    obtain ⟨rfl, b1⟩ := adv_look ha
    obtain ⟨c1, c2⟩ := ih rfl (next_le hp hb).2 b1
    refine ⟨c1, fun {D r'} h => ?_⟩
    cases h with
    | test h => exact (h ((W hp hb wn).2 hw)).elim
    | deep => exact .inr ⟨_, rfl⟩
    | notBad _ _ ha => exact .inr ⟨_, rfl⟩
    | notOk _ _ ha' hr' =>
      rw [adv_lazy, N hp hb hw] at ha'
      cases ha'
      rcases c2 hr' with h | ⟨a, h⟩
      · cases h; exact .inl rfl
      · cases h
    | notFail => exact .inr ⟨_, rfl⟩
    | openBad h => exact (h ((W hp hb wn).2 hw)).elim
    | openFail h => exact (h ((W hp hb wn).2 hw)).elim
    | openNot h => exact (h ((W hp hb wn).2 hw)).elim
    | openClose h => exact (h ((W hp hb wn).2 hw)).elim
    | openOk h => exact (h ((W hp hb wn).2 hw)).elim
  | @openOk d p p1 p2 p3 m h0 hw hd ha hr hc hx ih =>
    intro n q hr hp hb
    cases hr
    obtain ⟨rfl, b1⟩ := adv_look ha
    obtain ⟨⟨c1, c1'⟩, c2⟩ := ih rfl (next_le hp hb).2 b1
    obtain ⟨rfl, b3⟩ := adv_look hx
    refine ⟨⟨(next_le c1 c1').2, b3⟩, fun {D r'} h => ?_⟩
    cases h with
    | test _ h => exact (h ((W hp hb wo).2 hw)).elim
    | deep => exact .inr ⟨_, rfl⟩
    | notBad h => exact (h0 ((W hp hb wn).1 h)).elim
    | notOk h => exact (h0 ((W hp hb wn).1 h)).elim
    | notFail h => exact (h0 ((W hp hb wn).1 h)).elim
    | openBad => exact .inr ⟨_, rfl⟩
    | openFail => exact .inr ⟨_, rfl⟩
    | openNot => exact .inr ⟨_, rfl⟩
    | openClose => exact .inr ⟨_, rfl⟩
    | openOk _ _ _ ha' hr' hc' hx' =>
      rw [adv_lazy, N hp hb hw] at ha'
      cases ha'
      rcases c2 hr' with h | ⟨a, h⟩
      · cases h
        rw [adv_lazy, N c1 c1' hc] at hx'
        cases hx'
        exact .inl rfl
      · cases h
  | @allOk d p p1 m r hr hm ih1 ih2 =>
    intro n q hr hp hb
    subst hr
    obtain ⟨⟨c1, c1'⟩, c2⟩ := ih1 rfl hp hb
    obtain ⟨c3, c4⟩ := ih2 rfl c1 c1'
    refine ⟨c3, fun {D r'} h => ?_⟩
    cases h with
    | allFail => exact .inr ⟨_, rfl⟩
    | allOk h1 h2 =>
      rcases c2 h1 with h | ⟨a, h⟩
      · cases h; exact c4 h2
      · cases h
  | @allEnd d p m hw =>
    intro n q hr hp hb
    cases hr
    refine ⟨⟨hp, hb⟩, fun {D r'} h => ?_⟩
    cases h with
    | allEnd => exact .inl rfl
    | allBad h => exact (hw ((W hp hb wa).1 h)).elim
    | allNo h => exact (hw ((W hp hb wa).1 h)).elim
    | allMore h => exact (hw ((W hp hb wa).1 h)).elim
  | @allMore d p p1 p2 m m2 r hw ha hr hm ih1 ih2 =>
    intro n q hr hp hb
    subst hr
    obtain ⟨rfl, b1⟩ := adv_look ha
    obtain ⟨⟨c1, c1'⟩, c2⟩ := ih1 rfl (next_le hp hb).2 b1
    obtain ⟨c3, c4⟩ := ih2 rfl c1 c1'
    refine ⟨c3, fun {D r'} h => ?_⟩
    cases h with
    | allEnd h => exact (h ((W hp hb wa).2 hw)).elim
    | allBad => exact .inr ⟨_, rfl⟩
    | allNo => exact .inr ⟨_, rfl⟩
    | allMore _ ha' h1 h2 =>
      rw [adv_lazy, N hp hb hw] at ha'
      cases ha'
      rcases c2 h1 with h | ⟨a, h⟩
      · cases h; exact c4 h2
      · cases h
  | @anyOk d p p1 m r hr hm ih1 ih2 =>
    intro n q hr hp hb
    subst hr
    obtain ⟨⟨c1, c1'⟩, c2⟩ := ih1 rfl hp hb
    obtain ⟨c3, c4⟩ := ih2 rfl c1 c1'
    refine ⟨c3, fun {D r'} h => ?_⟩
    cases h with
    | anyFail => exact .inr ⟨_, rfl⟩
    | anyOk h1 h2 =>
      rcases c2 h1 with h | ⟨a, h⟩
      · cases h; exact c4 h2
      · cases h
  | @anyEnd d p m hw =>
    intro n q hr hp hb
    cases hr
    refine ⟨⟨hp, hb⟩, fun {D r'} h => ?_⟩
    cases h with
    | anyEnd => exact .inl rfl
    | anyBad h => exact (hw ((W hp hb wr).1 h)).elim
    | anyNo h => exact (hw ((W hp hb wr).1 h)).elim
    | anyMore h => exact (hw ((W hp hb wr).1 h)).elim
  | @anyMore d p p1 p2 m m2 r hw ha hr hm ih1 ih2 =>
    intro n q hr hp hb
    subst hr
    obtain ⟨rfl, b1⟩ := adv_look ha
    obtain ⟨⟨c1, c1'⟩, c2⟩ := ih1 rfl (next_le hp hb).2 b1
    obtain ⟨c3, c4⟩ := ih2 rfl c1 c1'
    refine ⟨c3, fun {D r'} h => ?_⟩
    cases h with
    | anyEnd h => exact (h ((W hp hb wr).2 hw)).elim
    | anyBad => exact .inr ⟨_, rfl⟩
    | anyNo => exact .inr ⟨_, rfl⟩
    | anyMore _ ha' h1 h2 =>
      rw [adv_lazy, N hp hb hw] at ha'
      cases ha'
      rcases c2 h1 with h | ⟨a, h⟩
      · cases h; exact c4 h2
      · cases h
end

/-! ## brackets -/
/-- the token of a rest that is known -/
theorem lex_at {U pre l : List UInt8} (hU : U = pre ++ l) : lex U pre.length = ⟨(lexRest (l.drop (runLen isBlank l))).1, pre.length + runLen isBlank l, pre.length + runLen isBlank l + (lexRest (l.drop (runLen isBlank l))).2⟩ ∧ textOf U (lex U pre.length) = (l.drop (runLen isBlank l)).take (lexRest (l.drop (runLen isBlank l))).2 := by
  subst hU
  have h1 : (pre ++ l).drop pre.length = l := List.drop_left
  have h2 : startOf (pre ++ l) pre.length = pre.length + runLen isBlank l := by unfold startOf; rw [h1]
  have h3 : (pre ++ l).drop (pre.length + runLen isBlank l) = l.drop (runLen isBlank l) := by rw [← List.drop_drop, h1]
  have h4 : lex (pre ++ l) pre.length = ⟨(lexRest (l.drop (runLen isBlank l))).1, pre.length + runLen isBlank l, pre.length + runLen isBlank l + (lexRest (l.drop (runLen isBlank l))).2⟩ := by
    unfold lex; rw [h2, h3]
  refine ⟨h4, ?_⟩
  rw [h4]
  unfold textOf
  simp only []
  rw [h3, show pre.length + runLen isBlank l + (lexRest (l.drop (runLen isBlank l))).2 - (pre.length + runLen isBlank l) = (lexRest (l.drop (runLen isBlank l))).2 by omega]
/-- a text that is a filter -/
def IsF (s : List UInt8) (f : Nd) : Prop := ∃ q, (lex s 0).kind ≠ .bad ∧ Reads (lang s) true .any 0 0 (.ok f q) ∧ (lex s q).kind = .ended
theorem isF_of {s : List UInt8} {f : Nd} (h : ParseP s (.ok (some f))) : IsF s f := by
  cases h with
  | ok h hb he hr hp => exact ⟨_, hb, hr, hp⟩
/-- a word or mark stands there, and what stands behind it begins there -/
structure Stands (U : List UInt8) (p : Nat) (w : List UInt8) (q : Nat) : Prop where
  word : isWord U p w
  next : nextOf U p = q
theorem Stands.not {U : List UInt8} {p q : Nat} {w v : List UInt8} (h : Stands U p w q) (hv : w ≠ v) : ¬ isWord U p v := fun k => hv (h.word.2.symm.trans k.2)
theorem stands_mk {U pre l : List UInt8} (hU : U = pre ++ l) {w : List UInt8} {k : TK} {n j : Nat} (hj : runLen isBlank l = j) (hl : lexRest (l.drop j) = (k, n)) (hk : k = .word ∨ k = .mark) (hw : (l.drop j).take n = w) : Stands U pre.length w (pre.length + j + n) := by
  subst hj
  obtain ⟨h1, h2⟩ := lex_at hU
  rw [hl] at h1 h2
  exact ⟨⟨by rw [h1]; exact hk, by rw [h2]; exact hw⟩, by unfold nextOf; rw [h1]⟩
theorem one_bracket {U pre s post : List UInt8} {f : Nd} (hF : IsF s f) (hU : U = ctx pre s post) {d p q : Nat} {n : Nd} (hO : Stands U p wOpen pre.length) (h : Reads (lang U) false .one d p (.ok n q)) : n = f ∧ q = pre.length + s.length + 1 := by
  subst hU
  obtain ⟨q0, hb, hr, he⟩ := hF
  obtain ⟨⟨c1, c2⟩, c3⟩ := reads_ctx pre post hr rfl (Nat.zero_le _) hb
  have hn : ¬ isWord (ctx pre s post) p wNot := hO.not (by decide)
  obtain ⟨m, x, hx, e1⟩ : ∃ m x, Reads (lang (ctx pre s post)) false .one d p x ∧ x = .ok m q ∧ m = n := ⟨n, _, h, rfl, rfl⟩
  obtain ⟨e1, rfl⟩ := e1
  cases hx with
  | test _ h => exact (h hO.word).elim
  | deep => cases e1
  | notBad h => exact (hn h).elim
  | notOk h => exact (hn h).elim
  | notFail h => exact (hn h).elim
  | openBad => cases e1
  | openFail => cases e1
  | openNot => cases e1
  | openClose => cases e1
  | openOk _ _ _ ha hr' hc hx =>
    cases e1
    rw [adv_lazy] at ha hx
    cases ha
    cases hx
    have hn1 : (lang (ctx pre s post)).next p = pre.length + 0 := hO.next
    rw [hn1] at hr'
    rcases c3 hr' with h | ⟨a, h⟩
    · cases h
      refine ⟨rfl, ?_⟩
      show nextOf (ctx pre s post) (pre.length + q0) = _
      unfold nextOf
      rw [(ctx_end (pre := pre) (post := post) c1 he).1]
    · cases h
theorem one_not {U : List UInt8} {d p q p1 : Nat} {n : Nd} (hN : Stands U p wNot p1) (h : Reads (lang U) false .one d p (.ok n q)) : ∃ m, n = .not m ∧ Reads (lang U) false .one (d + 1) p1 (.ok m q) := by
  obtain ⟨x, hx, e1⟩ : ∃ x, Reads (lang U) false .one d p x ∧ x = .ok n q := ⟨_, h, rfl⟩
  cases hx with
  | test h => exact (h hN.word).elim
  | deep => cases e1
  | notBad h => cases e1
  | notOk _ _ ha hr =>
    cases e1
    rw [adv_lazy] at ha
    cases ha
    have : (lang U).next p = p1 := hN.next
    rw [this] at hr
    exact ⟨_, rfl, hr⟩
  | notFail h => cases e1
  | openBad h => cases e1
  | openFail h => cases e1
  | openNot h => cases e1
  | openClose h => cases e1
  | openOk h => exact (h hN.word).elim
theorem all_one {U : List UInt8} {d p q : Nat} {n : Nd} (h : Reads (lang U) false .all d p (.ok n q)) : ∃ m p1, Reads (lang U) false .one d p (.ok m p1) ∧ Reads (lang U) false (.allMore m) d p1 (.ok n q) := by
  cases h with
  | allOk h1 h2 => exact ⟨_, _, h1, h2⟩
theorem any_all {U : List UInt8} {d p q : Nat} {n : Nd} (h : Reads (lang U) false .any d p (.ok n q)) : ∃ m p1, Reads (lang U) false .all d p (.ok m p1) ∧ Reads (lang U) false (.anyMore m) d p1 (.ok n q) := by
  cases h with
  | anyOk h1 h2 => exact ⟨_, _, h1, h2⟩
theorem all_more {U : List UInt8} {d p q p1 : Nat} {n m : Nd} (hA : Stands U p wAnd p1) (h : Reads (lang U) false (.allMore m) d p (.ok n q)) : ∃ m' p2, Reads (lang U) false .one d p1 (.ok m' p2) ∧ Reads (lang U) false (.allMore (.all m m')) d p2 (.ok n q) := by
  have e : (lang U).next p = p1 := hA.next
  cases h with
  | allEnd h => exact (h hA.word).elim
  | allMore _ ha h1 h2 => rw [adv_lazy] at ha; cases ha; rw [e] at h1; exact ⟨_, _, h1, h2⟩
theorem any_more {U : List UInt8} {d p q p1 : Nat} {n m : Nd} (hA : Stands U p wOr p1) (h : Reads (lang U) false (.anyMore m) d p (.ok n q)) : ∃ m' p2, Reads (lang U) false .all d p1 (.ok m' p2) ∧ Reads (lang U) false (.anyMore (.any m m')) d p2 (.ok n q) := by
  have e : (lang U).next p = p1 := hA.next
  cases h with
  | anyEnd h => exact (h hA.word).elim
  | anyMore _ ha h1 h2 => rw [adv_lazy] at ha; cases ha; rw [e] at h1; exact ⟨_, _, h1, h2⟩
theorem all_end {U : List UInt8} {d p q : Nat} {n m : Nd} (hA : ¬ isWord U p wAnd) (h : Reads (lang U) false (.allMore m) d p (.ok n q)) : n = m ∧ q = p := by
  cases h with
  | allEnd h => exact ⟨rfl, rfl⟩
  | allMore h => exact (hA h).elim
theorem any_end {U : List UInt8} {d p q : Nat} {n m : Nd} (hA : ¬ isWord U p wOr) (h : Reads (lang U) false (.anyMore m) d p (.ok n q)) : n = m ∧ q = p := by
  cases h with
  | anyEnd h => exact ⟨rfl, rfl⟩
  | anyMore h => exact (hA h).elim
theorem ended_word {U : List UInt8} {w : List UInt8} : ¬ isWord U U.length w := by
  intro h
  have := (lex_at (U := U) (pre := U) (l := []) (by simp)).1
  rcases h.1 with h | h <;> (rw [this] at h; cases h)
/-- the four texts of FilterLogic -/
def tAnd (s t : List UInt8) : List UInt8 := [40] ++ s ++ [41, 32, 97, 110, 100, 32, 40] ++ t ++ [41]
def tOr (s t : List UInt8) : List UInt8 := [40] ++ s ++ [41, 32, 111, 114, 32, 40] ++ t ++ [41]
def tNotOr (s t : List UInt8) : List UInt8 := [110, 111, 116, 32, 40] ++ s ++ [41, 32, 111, 114, 32, 110, 111, 116, 32, 40] ++ t ++ [41]
def tNotAnd (s t : List UInt8) : List UInt8 := [110, 111, 116, 32, 40, 40] ++ s ++ [41, 32, 97, 110, 100, 32, 40] ++ t ++ [41, 41]
section
variable {s t : List UInt8} {f g : Nd} (hf : IsF s f) (hg : IsF t g)
include hf hg
theorem reads_and {h : Nd} {q : Nat} (hr : Reads (lang (tAnd s t)) false .any 0 0 (.ok h q)) : h = .all f g := by
  obtain ⟨m1, p1, h1, h2⟩ := any_all hr
  obtain ⟨m2, p2, h3, h4⟩ := all_one h1
  have o1 : Stands (tAnd s t) 0 wOpen ([40] : List UInt8).length := stands_mk (pre := []) (l := tAnd s t) (by simp) (w := wOpen) (k := .mark) (n := 1) (j := 0) rfl rfl (.inr rfl) rfl
  obtain ⟨rfl, rfl⟩ := one_bracket hf (pre := [40]) (post := [32, 97, 110, 100, 32, 40] ++ t ++ [41]) (by simp [tAnd, ctx]) o1 h3
  have a1 : Stands (tAnd s t) ([40] ++ s ++ [41]).length wAnd (([40] ++ s ++ [41]).length + 1 + 3) := stands_mk (pre := [40] ++ s ++ [41]) (l := [32, 97, 110, 100, 32, 40] ++ t ++ [41]) (by simp [tAnd]) (w := wAnd) (k := .word) (n := 3) (j := 1) rfl rfl (.inl rfl) rfl
  have e1 : ([40] ++ s ++ [41] : List UInt8).length = ([40] : List UInt8).length + s.length + 1 := by (try simp only [List.length_append, List.length_cons, List.length_nil]); (try omega)
  rw [e1] at a1
  obtain ⟨m3, p3, h5, h6⟩ := all_more a1 h4
  have o2 : Stands (tAnd s t) ([40] ++ s ++ [41, 32, 97, 110, 100]).length wOpen (([40] ++ s ++ [41, 32, 97, 110, 100]).length + 1 + 1) := stands_mk (pre := [40] ++ s ++ [41, 32, 97, 110, 100]) (l := [32, 40] ++ t ++ [41]) (by simp [tAnd]) (w := wOpen) (k := .mark) (n := 1) (j := 1) rfl rfl (.inr rfl) rfl
  have e2 : ([40] ++ s ++ [41, 32, 97, 110, 100] : List UInt8).length = ([40] : List UInt8).length + s.length + 1 + 1 + 3 := by (try simp only [List.length_append, List.length_cons, List.length_nil]); (try omega)
  have e3 : ([40] : List UInt8).length + s.length + 1 + 1 + 3 + 1 + 1 = ([40] ++ s ++ [41, 32, 97, 110, 100, 32, 40] : List UInt8).length := by (try simp only [List.length_append, List.length_cons, List.length_nil]); (try omega)
  rw [e2, e3] at o2
  obtain ⟨rfl, rfl⟩ := one_bracket hg (pre := [40] ++ s ++ [41, 32, 97, 110, 100, 32, 40]) (post := []) (by simp [tAnd, ctx]) o2 h5
  have e4 : ([40] ++ s ++ [41, 32, 97, 110, 100, 32, 40] : List UInt8).length + t.length + 1 = (tAnd s t).length := by (try simp only [tAnd, List.length_append, List.length_cons, List.length_nil]); (try omega)
  rw [e4] at h6
  obtain ⟨rfl, rfl⟩ := all_end ended_word h6
  obtain ⟨rfl, rfl⟩ := any_end ended_word h2
  rfl
theorem reads_or {h : Nd} {q : Nat} (hr : Reads (lang (tOr s t)) false .any 0 0 (.ok h q)) : h = .any f g := by
  obtain ⟨m1, p1, h1, h2⟩ := any_all hr
  obtain ⟨m2, p2, h3, h4⟩ := all_one h1
  have o1 : Stands (tOr s t) 0 wOpen ([40] : List UInt8).length := stands_mk (pre := []) (l := tOr s t) (by simp) (w := wOpen) (k := .mark) (n := 1) (j := 0) rfl rfl (.inr rfl) rfl
  obtain ⟨rfl, rfl⟩ := one_bracket hf (pre := [40]) (post := [32, 111, 114, 32, 40] ++ t ++ [41]) (by simp [tOr, ctx]) o1 h3
  have a1 : Stands (tOr s t) ([40] ++ s ++ [41]).length wOr (([40] ++ s ++ [41]).length + 1 + 2) := stands_mk (pre := [40] ++ s ++ [41]) (l := [32, 111, 114, 32, 40] ++ t ++ [41]) (by simp [tOr]) (w := wOr) (k := .word) (n := 2) (j := 1) rfl rfl (.inl rfl) rfl
  have e1 : ([40] ++ s ++ [41] : List UInt8).length = ([40] : List UInt8).length + s.length + 1 := by (try simp only [List.length_append, List.length_cons, List.length_nil]); (try omega)
  rw [e1] at a1
  obtain ⟨rfl, rfl⟩ := all_end (a1.not (by decide)) h4
  obtain ⟨m3, p3, h5, h6⟩ := any_more a1 h2
  obtain ⟨m4, p4, h7, h8⟩ := all_one h5
  have o2 : Stands (tOr s t) ([40] ++ s ++ [41, 32, 111, 114]).length wOpen (([40] ++ s ++ [41, 32, 111, 114]).length + 1 + 1) := stands_mk (pre := [40] ++ s ++ [41, 32, 111, 114]) (l := [32, 40] ++ t ++ [41]) (by simp [tOr]) (w := wOpen) (k := .mark) (n := 1) (j := 1) rfl rfl (.inr rfl) rfl
  have e2 : ([40] ++ s ++ [41, 32, 111, 114] : List UInt8).length = ([40] : List UInt8).length + s.length + 1 + 1 + 2 := by (try simp only [List.length_append, List.length_cons, List.length_nil]); (try omega)
  have e3 : ([40] : List UInt8).length + s.length + 1 + 1 + 2 + 1 + 1 = ([40] ++ s ++ [41, 32, 111, 114, 32, 40] : List UInt8).length := by (try simp only [List.length_append, List.length_cons, List.length_nil]); (try omega)
  rw [e2, e3] at o2
  obtain ⟨rfl, rfl⟩ := one_bracket hg (pre := [40] ++ s ++ [41, 32, 111, 114, 32, 40]) (post := []) (by simp [tOr, ctx]) o2 h7
  have e4 : ([40] ++ s ++ [41, 32, 111, 114, 32, 40] : List UInt8).length + t.length + 1 = (tOr s t).length := by (try simp only [tOr, List.length_append, List.length_cons, List.length_nil]); (try omega)
  rw [e4] at h8
  obtain ⟨rfl, rfl⟩ := all_end ended_word h8
  obtain ⟨rfl, rfl⟩ := any_end ended_word h6
  rfl
theorem reads_not_or {h : Nd} {q : Nat} (hr : Reads (lang (tNotOr s t)) false .any 0 0 (.ok h q)) : h = .any (.not f) (.not g) := by
  obtain ⟨m1, p1, h1, h2⟩ := any_all hr
  obtain ⟨m2, p2, h3, h4⟩ := all_one h1
  have o0 : Stands (tNotOr s t) 0 wNot ([110, 111, 116] : List UInt8).length := stands_mk (pre := []) (l := tNotOr s t) (by simp) (w := wNot) (k := .word) (n := 3) (j := 0) rfl rfl (.inl rfl) rfl
  obtain ⟨m3, rfl, h5⟩ := one_not o0 h3
  have o1 : Stands (tNotOr s t) ([110, 111, 116] : List UInt8).length wOpen ([110, 111, 116, 32, 40] : List UInt8).length := stands_mk (pre := [110, 111, 116]) (l := [32, 40] ++ s ++ [41, 32, 111, 114, 32, 110, 111, 116, 32, 40] ++ t ++ [41]) (by simp [tNotOr]) (w := wOpen) (k := .mark) (n := 1) (j := 1) rfl rfl (.inr rfl) rfl
  obtain ⟨rfl, rfl⟩ := one_bracket hf (pre := [110, 111, 116, 32, 40]) (post := [32, 111, 114, 32, 110, 111, 116, 32, 40] ++ t ++ [41]) (by simp [tNotOr, ctx]) o1 h5
  have a1 : Stands (tNotOr s t) ([110, 111, 116, 32, 40] ++ s ++ [41]).length wOr (([110, 111, 116, 32, 40] ++ s ++ [41]).length + 1 + 2) := stands_mk (pre := [110, 111, 116, 32, 40] ++ s ++ [41]) (l := [32, 111, 114, 32, 110, 111, 116, 32, 40] ++ t ++ [41]) (by simp [tNotOr]) (w := wOr) (k := .word) (n := 2) (j := 1) rfl rfl (.inl rfl) rfl
  have e1 : ([110, 111, 116, 32, 40] ++ s ++ [41] : List UInt8).length = ([110, 111, 116, 32, 40] : List UInt8).length + s.length + 1 := by (try simp only [List.length_append, List.length_cons, List.length_nil]); (try omega)
  rw [e1] at a1
  obtain ⟨rfl, rfl⟩ := all_end (a1.not (by decide)) h4
  obtain ⟨m4, p4, h6, h7⟩ := any_more a1 h2
  obtain ⟨m5, p5, h8, h9⟩ := all_one h6
  have o2 : Stands (tNotOr s t) ([110, 111, 116, 32, 40] ++ s ++ [41, 32, 111, 114]).length wNot (([110, 111, 116, 32, 40] ++ s ++ [41, 32, 111, 114]).length + 1 + 3) := stands_mk (pre := [110, 111, 116, 32, 40] ++ s ++ [41, 32, 111, 114]) (l := [32, 110, 111, 116, 32, 40] ++ t ++ [41]) (by simp [tNotOr]) (w := wNot) (k := .word) (n := 3) (j := 1) rfl rfl (.inl rfl) rfl
  have e2 : ([110, 111, 116, 32, 40] ++ s ++ [41, 32, 111, 114] : List UInt8).length = ([110, 111, 116, 32, 40] : List UInt8).length + s.length + 1 + 1 + 2 := by (try simp only [List.length_append, List.length_cons, List.length_nil]); (try omega)
  have e3 : ([110, 111, 116, 32, 40] : List UInt8).length + s.length + 1 + 1 + 2 + 1 + 3 = ([110, 111, 116, 32, 40] ++ s ++ [41, 32, 111, 114, 32, 110, 111, 116] : List UInt8).length := by (try simp only [List.length_append, List.length_cons, List.length_nil]); (try omega)
  rw [e2, e3] at o2
  obtain ⟨m6, rfl, h10⟩ := one_not o2 h8
  have o3 : Stands (tNotOr s t) ([110, 111, 116, 32, 40] ++ s ++ [41, 32, 111, 114, 32, 110, 111, 116]).length wOpen (([110, 111, 116, 32, 40] ++ s ++ [41, 32, 111, 114, 32, 110, 111, 116]).length + 1 + 1) := stands_mk (pre := [110, 111, 116, 32, 40] ++ s ++ [41, 32, 111, 114, 32, 110, 111, 116]) (l := [32, 40] ++ t ++ [41]) (by simp [tNotOr]) (w := wOpen) (k := .mark) (n := 1) (j := 1) rfl rfl (.inr rfl) rfl
  have e4 : ([110, 111, 116, 32, 40] ++ s ++ [41, 32, 111, 114, 32, 110, 111, 116] : List UInt8).length + 1 + 1 = ([110, 111, 116, 32, 40] ++ s ++ [41, 32, 111, 114, 32, 110, 111, 116, 32, 40] : List UInt8).length := by (try simp only [List.length_append, List.length_cons, List.length_nil]); (try omega)
  rw [e4] at o3
  obtain ⟨rfl, rfl⟩ := one_bracket hg (pre := [110, 111, 116, 32, 40] ++ s ++ [41, 32, 111, 114, 32, 110, 111, 116, 32, 40]) (post := []) (by simp [tNotOr, ctx]) o3 h10
  have e5 : ([110, 111, 116, 32, 40] ++ s ++ [41, 32, 111, 114, 32, 110, 111, 116, 32, 40] : List UInt8).length + t.length + 1 = (tNotOr s t).length := by (try simp only [tNotOr, List.length_append, List.length_cons, List.length_nil]); (try omega)
  rw [e5] at h9
  obtain ⟨rfl, rfl⟩ := all_end ended_word h9
  obtain ⟨rfl, rfl⟩ := any_end ended_word h7
  rfl
theorem reads_not_and {h : Nd} {q : Nat} (hr : Reads (lang (tNotAnd s t)) false .any 0 0 (.ok h q)) : h = .not (.all f g) := by
  obtain ⟨m1, p1, h1, h2⟩ := any_all hr
  obtain ⟨m2, p2, h3, h4⟩ := all_one h1
  have o0 : Stands (tNotAnd s t) 0 wNot ([110, 111, 116] : List UInt8).length := stands_mk (pre := []) (l := tNotAnd s t) (by simp) (w := wNot) (k := .word) (n := 3) (j := 0) rfl rfl (.inl rfl) rfl
  obtain ⟨m3, rfl, h5⟩ := one_not o0 h3
  have o1 : Stands (tNotAnd s t) ([110, 111, 116] : List UInt8).length wOpen ([110, 111, 116, 32, 40] : List UInt8).length := stands_mk (pre := [110, 111, 116]) (l := [32, 40, 40] ++ s ++ [41, 32, 97, 110, 100, 32, 40] ++ t ++ [41, 41]) (by simp [tNotAnd]) (w := wOpen) (k := .mark) (n := 1) (j := 1) rfl rfl (.inr rfl) rfl
  have key : ∀ {d x}, Reads (lang (tNotAnd s t)) false .any d ([110, 111, 116, 32, 40] : List UInt8).length x → ∀ {n q}, x = .ok n q → n = .all f g ∧ q = ([110, 111, 116, 32, 40, 40] ++ s ++ [41, 32, 97, 110, 100, 32, 40] : List UInt8).length + t.length + 1 := by
    intro d x hx n q hxe
    subst hxe
    obtain ⟨m1, p1, h1, h2⟩ := any_all hx
    obtain ⟨m2, p2, h3, h4⟩ := all_one h1
    have o2 : Stands (tNotAnd s t) ([110, 111, 116, 32, 40] : List UInt8).length wOpen ([110, 111, 116, 32, 40, 40] : List UInt8).length := stands_mk (pre := [110, 111, 116, 32, 40]) (l := [40] ++ s ++ [41, 32, 97, 110, 100, 32, 40] ++ t ++ [41, 41]) (by simp [tNotAnd]) (w := wOpen) (k := .mark) (n := 1) (j := 0) rfl rfl (.inr rfl) rfl
    obtain ⟨rfl, rfl⟩ := one_bracket hf (pre := [110, 111, 116, 32, 40, 40]) (post := [32, 97, 110, 100, 32, 40] ++ t ++ [41, 41]) (by simp [tNotAnd, ctx]) o2 h3
    have a1 : Stands (tNotAnd s t) ([110, 111, 116, 32, 40, 40] ++ s ++ [41]).length wAnd (([110, 111, 116, 32, 40, 40] ++ s ++ [41]).length + 1 + 3) := stands_mk (pre := [110, 111, 116, 32, 40, 40] ++ s ++ [41]) (l := [32, 97, 110, 100, 32, 40] ++ t ++ [41, 41]) (by simp [tNotAnd]) (w := wAnd) (k := .word) (n := 3) (j := 1) rfl rfl (.inl rfl) rfl
    have e1 : ([110, 111, 116, 32, 40, 40] ++ s ++ [41] : List UInt8).length = ([110, 111, 116, 32, 40, 40] : List UInt8).length + s.length + 1 := by (try simp only [List.length_append, List.length_cons, List.length_nil]); (try omega)
    rw [e1] at a1
    obtain ⟨m3, p3, h5, h6⟩ := all_more a1 h4
    have o2 : Stands (tNotAnd s t) ([110, 111, 116, 32, 40, 40] ++ s ++ [41, 32, 97, 110, 100]).length wOpen (([110, 111, 116, 32, 40, 40] ++ s ++ [41, 32, 97, 110, 100]).length + 1 + 1) := stands_mk (pre := [110, 111, 116, 32, 40, 40] ++ s ++ [41, 32, 97, 110, 100]) (l := [32, 40] ++ t ++ [41, 41]) (by simp [tNotAnd]) (w := wOpen) (k := .mark) (n := 1) (j := 1) rfl rfl (.inr rfl) rfl
    have e2 : ([110, 111, 116, 32, 40, 40] ++ s ++ [41, 32, 97, 110, 100] : List UInt8).length = ([110, 111, 116, 32, 40, 40] : List UInt8).length + s.length + 1 + 1 + 3 := by (try simp only [List.length_append, List.length_cons, List.length_nil]); (try omega)
    have e3 : ([110, 111, 116, 32, 40, 40] : List UInt8).length + s.length + 1 + 1 + 3 + 1 + 1 = ([110, 111, 116, 32, 40, 40] ++ s ++ [41, 32, 97, 110, 100, 32, 40] : List UInt8).length := by (try simp only [List.length_append, List.length_cons, List.length_nil]); (try omega)
    rw [e2, e3] at o2
    obtain ⟨rfl, rfl⟩ := one_bracket hg (pre := [110, 111, 116, 32, 40, 40] ++ s ++ [41, 32, 97, 110, 100, 32, 40]) (post := [41]) (by simp [tNotAnd, ctx]) o2 h5
    have c1 : Stands (tNotAnd s t) ([110, 111, 116, 32, 40, 40] ++ s ++ [41, 32, 97, 110, 100, 32, 40] ++ t ++ [41]).length wClose (([110, 111, 116, 32, 40, 40] ++ s ++ [41, 32, 97, 110, 100, 32, 40] ++ t ++ [41]).length + 0 + 1) := stands_mk (pre := [110, 111, 116, 32, 40, 40] ++ s ++ [41, 32, 97, 110, 100, 32, 40] ++ t ++ [41]) (l := [41]) (by simp [tNotAnd]) (w := wClose) (k := .mark) (n := 1) (j := 0) rfl rfl (.inr rfl) rfl
    have e4 : ([110, 111, 116, 32, 40, 40] ++ s ++ [41, 32, 97, 110, 100, 32, 40] ++ t ++ [41] : List UInt8).length = ([110, 111, 116, 32, 40, 40] ++ s ++ [41, 32, 97, 110, 100, 32, 40] : List UInt8).length + t.length + 1 := by (try simp only [List.length_append, List.length_cons, List.length_nil]); (try omega)
    rw [e4] at c1
    obtain ⟨rfl, rfl⟩ := all_end (c1.not (by decide)) h6
    obtain ⟨rfl, rfl⟩ := any_end (c1.not (by decide)) h2
    exact ⟨rfl, rfl⟩
  have hn : ¬ isWord (tNotAnd s t) ([110, 111, 116] : List UInt8).length wNot := o1.not (by decide)
  obtain ⟨x, hx, e1⟩ : ∃ x, Reads (lang (tNotAnd s t)) false .one (0 + 1) ([110, 111, 116] : List UInt8).length x ∧ x = .ok m3 p2 := ⟨_, h5, rfl⟩
  cases hx with
  | test _ h => exact (h o1.word).elim
  | deep => cases e1
  | notBad h => exact (hn h).elim
  | notOk h => exact (hn h).elim
  | notFail h => exact (hn h).elim
  | openBad => cases e1
  | openFail => cases e1
  | openNot => cases e1
  | openClose => cases e1
  | openOk _ _ _ ha hr' hc hx =>
    cases e1
    rw [adv_lazy] at ha hx
    cases ha
    cases hx
    have hn1 : (lang (tNotAnd s t)).next ([110, 111, 116] : List UInt8).length = ([110, 111, 116, 32, 40] : List UInt8).length := o1.next
    rw [hn1] at hr'
    obtain ⟨rfl, rfl⟩ := key hr' rfl
    have c1 : Stands (tNotAnd s t) ([110, 111, 116, 32, 40, 40] ++ s ++ [41, 32, 97, 110, 100, 32, 40] ++ t ++ [41]).length wClose (([110, 111, 116, 32, 40, 40] ++ s ++ [41, 32, 97, 110, 100, 32, 40] ++ t ++ [41]).length + 0 + 1) := stands_mk (pre := [110, 111, 116, 32, 40, 40] ++ s ++ [41, 32, 97, 110, 100, 32, 40] ++ t ++ [41]) (l := [41]) (by simp [tNotAnd]) (w := wClose) (k := .mark) (n := 1) (j := 0) rfl rfl (.inr rfl) rfl
    have e4 : ([110, 111, 116, 32, 40, 40] ++ s ++ [41, 32, 97, 110, 100, 32, 40] ++ t ++ [41] : List UInt8).length = ([110, 111, 116, 32, 40, 40] ++ s ++ [41, 32, 97, 110, 100, 32, 40] : List UInt8).length + t.length + 1 := by (try simp only [List.length_append, List.length_cons, List.length_nil]); (try omega)
    rw [e4] at c1
    have e5 : (lang (tNotAnd s t)).next (([110, 111, 116, 32, 40, 40] ++ s ++ [41, 32, 97, 110, 100, 32, 40] : List UInt8).length + t.length + 1) = (tNotAnd s t).length := by
      have := c1.next
      show nextOf _ _ = _
      rw [this]; simp [tNotAnd]; omega
    rw [e5] at h4
    obtain ⟨rfl, rfl⟩ := all_end ended_word h4
    obtain ⟨rfl, rfl⟩ := any_end ended_word h2
    rfl
end
end Go.Proofs.YtkbffgnhiohpcaaDoor.Filt
