/- Filters (layer 21): a filter's text is read as that filter (the plain law of FilterBack, second part). No program in sight. -/
import Derived.Test.YtkbffgnhiohpcaaDoorFiltD
namespace Go.Proofs.YtkbffgnhiohpcaaDoor.Filt
set_option linter.unusedSimpArgs false
set_option linter.unusedVariables false

/-! ## tokens of what is printed -/
/-- nothing that goes on a word stands behind -/
def Follow (l : List UInt8) : Prop := l = [] ∨ ∃ r, l = 32 :: r ∨ l = 41 :: r
/-- a token is there -/
structure Tk (U : List UInt8) (p : Nat) (k : TK) (w : List UInt8) (q : Nat) : Prop where
  kind : (lex U p).kind = k
  text : textOf U (lex U p) = w
  next : nextOf U p = q
theorem tk_mk {U pre l : List UInt8} (hU : U = pre ++ l) {w : List UInt8} {k : TK} {n j : Nat} (hj : runLen isBlank l = j) (hl : lexRest (l.drop j) = (k, n)) (hw : (l.drop j).take n = w) : Tk U pre.length k w (pre.length + j + n) := by
  subst hj
  obtain ⟨h1, h2⟩ := lex_at hU
  rw [hl] at h1 h2
  exact ⟨by rw [h1], by rw [h2]; exact hw, by unfold nextOf; rw [h1]⟩
theorem field_lex {f : Nat} (hf : f < 14) (l : List UInt8) : lexRest (fieldNames.getD f [] ++ 32 :: l) = (.word, (fieldNames.getD f []).length) ∧ runLen isBlank (fieldNames.getD f [] ++ 32 :: l) = 0 ∧ fieldNames.idxOf (fieldNames.getD f []) = f := by
  match f, hf with
  | 0, _ => exact ⟨rfl, rfl, by decide⟩
  | 1, _ => exact ⟨rfl, rfl, by decide⟩
  | 2, _ => exact ⟨rfl, rfl, by decide⟩
  | 3, _ => exact ⟨rfl, rfl, by decide⟩
  | 4, _ => exact ⟨rfl, rfl, by decide⟩
  | 5, _ => exact ⟨rfl, rfl, by decide⟩
  | 6, _ => exact ⟨rfl, rfl, by decide⟩
  | 7, _ => exact ⟨rfl, rfl, by decide⟩
  | 8, _ => exact ⟨rfl, rfl, by decide⟩
  | 9, _ => exact ⟨rfl, rfl, by decide⟩
  | 10, _ => exact ⟨rfl, rfl, by decide⟩
  | 11, _ => exact ⟨rfl, rfl, by decide⟩
  | 12, _ => exact ⟨rfl, rfl, by decide⟩
  | 13, _ => exact ⟨rfl, rfl, by decide⟩
  | n + 14, h => omega
theorem ask_lex {k : Nat} (hk : k < 6) (l : List UInt8) : lexRest (askNames.getD k [] ++ 32 :: l) = (.mark, (askNames.getD k []).length) ∧ askNames.idxOf (askNames.getD k []) = k ∧ runLen isBlank (askNames.getD k [] ++ 32 :: l) = 0 := by
  match k, hk with
  | 0, _ => exact ⟨rfl, by decide, rfl⟩
  | 1, _ => exact ⟨rfl, by decide, rfl⟩
  | 2, _ => exact ⟨rfl, by decide, rfl⟩
  | 3, _ => exact ⟨rfl, by decide, rfl⟩
  | 4, _ => exact ⟨rfl, by decide, rfl⟩
  | 5, _ => exact ⟨rfl, by decide, rfl⟩
  | n + 6, h => omega
theorem status_lex {i : Nat} (hi : i < 7) {l : List UInt8} (hl : Follow l) : lexRest (statusNames.getD i [] ++ l) = (.word, (statusNames.getD i []).length) ∧ statusNames.idxOf (statusNames.getD i []) = i ∧ runLen isBlank (statusNames.getD i [] ++ l) = 0 := by
  rcases hl with rfl | ⟨r, rfl | rfl⟩ <;>
  · match i, hi with
    | 0, _ => exact ⟨rfl, by decide, rfl⟩
    | 1, _ => exact ⟨rfl, by decide, rfl⟩
    | 2, _ => exact ⟨rfl, by decide, rfl⟩
    | 3, _ => exact ⟨rfl, by decide, rfl⟩
    | 4, _ => exact ⟨rfl, by decide, rfl⟩
    | 5, _ => exact ⟨rfl, by decide, rfl⟩
    | 6, _ => exact ⟨rfl, by decide, rfl⟩
    | n + 7, h => omega
/-! ### numerals -/
theorem decVal_snoc (l : List UInt8) (c : UInt8) : decVal (l ++ [c]) = 10 * decVal l + (c.toNat - 48) := by unfold decVal; rw [List.foldl_append]; rfl
theorem dec_digits (u : Nat) : (Lib.decDigits u).all isDigit = true ∧ decVal (Lib.decDigits u) = u ∧ Lib.decDigits u ≠ [] ∧ (Lib.decDigits u = [48] ∨ (Lib.decDigits u).head? ≠ some 48) ∧ (0 < u → (Lib.decDigits u).head? ≠ some 48) := by
  induction u using Nat.strongRecOn with
  | _ u ih =>
    by_cases h : u < 10
    · rw [Lib.decDigits, dif_pos h]
      match u, h with
      | 0, _ => exact ⟨by decide, by decide, by decide, by decide, by decide⟩
      | 1, _ => exact ⟨by decide, by decide, by decide, by decide, by decide⟩
      | 2, _ => exact ⟨by decide, by decide, by decide, by decide, by decide⟩
      | 3, _ => exact ⟨by decide, by decide, by decide, by decide, by decide⟩
      | 4, _ => exact ⟨by decide, by decide, by decide, by decide, by decide⟩
      | 5, _ => exact ⟨by decide, by decide, by decide, by decide, by decide⟩
      | 6, _ => exact ⟨by decide, by decide, by decide, by decide, by decide⟩
      | 7, _ => exact ⟨by decide, by decide, by decide, by decide, by decide⟩
      | 8, _ => exact ⟨by decide, by decide, by decide, by decide, by decide⟩
      | 9, _ => exact ⟨by decide, by decide, by decide, by decide, by decide⟩
      | n + 10, h => omega
    · obtain ⟨h1, h2, h3, h4, h5⟩ := ih (u / 10) (by omega)
      rw [Lib.decDigits, dif_neg h]
      have hc : (UInt8.ofNat (48 + u % 10)).toNat = 48 + u % 10 := by simp only [UInt8.toNat_ofNat']; omega
      have hh : (Lib.decDigits (u / 10) ++ [UInt8.ofNat (48 + u % 10)]).head? = (Lib.decDigits (u / 10)).head? := by
        cases hd : Lib.decDigits (u / 10) with
        | nil => exact (h3 hd).elim
        | cons c r => rfl
      refine ⟨?_, ?_, by simp, .inr ?_, fun _ => ?_⟩
      · rw [List.all_append, h1]
        simp only [List.all_cons, List.all_nil, Bool.true_and, Bool.and_true, isDigit, hc, decide_eq_true_eq]
        omega
      · rw [decVal_snoc, h2, hc]; omega
      · rw [hh]; exact h5 (by omega)
      · rw [hh]; exact h5 (by omega)
theorem mag_dec {u : Nat} : magOk (Lib.decDigits u) = true := by
  obtain ⟨h1, h2, h3, h4, h5⟩ := dec_digits u
  unfold magOk
  rw [h1]
  rcases h4 with h4 | h4
  · rw [h4]; rfl
  · have e1 : (Lib.decDigits u).isEmpty = false := by cases h : Lib.decDigits u with | nil => exact (h3 h).elim | cons => rfl
    have e2 : ((Lib.decDigits u).head? != some 48) = true := by rw [bne_iff_ne]; exact h4
    rw [e1, e2]
    simp
theorem dec_ne45 (u : Nat) (r : List UInt8) : Lib.decDigits u ≠ 45 :: r := by
  intro h
  have := (dec_digits u).1
  rw [h] at this
  simp [isDigit] at this
theorem numOf_plain {l : List UInt8} (h : ∀ r, l ≠ 45 :: r) : numOf l = if magOk l && decide (decVal l ≤ 9223372036854775807) then some (decVal l : Int) else none := by
  unfold numOf
  split
  · exact (h _ rfl).elim
  · rfl
theorem num_itoa {n : Int} (h : I64 n) : numOf (Lib.itoa n) = some n := by
  unfold I64 at h
  unfold Lib.itoa
  split
  · rename_i hn
    have hv := (dec_digits n.natAbs).2.1
    show (if magOk (Lib.decDigits n.natAbs) && decide (0 < decVal (Lib.decDigits n.natAbs)) && decide (decVal (Lib.decDigits n.natAbs) ≤ 9223372036854775808) then some (-(decVal (Lib.decDigits n.natAbs) : Int)) else none) = some n
    rw [mag_dec, hv, if_pos (by simp; omega)]
    congr 1
    omega
  · rename_i hn
    have hv := (dec_digits n.toNat).2.1
    rw [numOf_plain (dec_ne45 _), mag_dec, hv, if_pos (by simp; omega)]
    congr 1
    omega
theorem runLen_full {p : UInt8 → Bool} {m : List UInt8} (hm : runLen p m = 0) : ∀ l : List UInt8, l.all p = true → runLen p (l ++ m) = l.length
  | [], _ => hm
  | c :: l, h => by
    rw [List.all_cons, Bool.and_eq_true] at h
    simp only [List.cons_append, runLen]
    rw [if_pos h.1, runLen_full hm l h.2]
    rfl
theorem itoa_form {n : Int} : ∃ c r, Lib.itoa n = c :: r ∧ r.all isDigit = true ∧ (isDigit c || c.toNat == 45) = true ∧ isSmall c = false ∧ isBlank c = false := by
  unfold Lib.itoa
  split
  · exact ⟨45, _, rfl, (dec_digits _).1, by decide, by decide, by decide⟩
  · obtain ⟨h1, -, h3, -, -⟩ := dec_digits n.toNat
    cases hd : Lib.decDigits n.toNat with
    | nil => exact (h3 hd).elim
    | cons c r =>
      rw [hd, List.all_cons, Bool.and_eq_true] at h1
      refine ⟨c, r, rfl, h1.2, by rw [h1.1]; rfl, ?_, ?_⟩
      · have := h1.1
        simp only [isDigit, isSmall, decide_eq_true_eq, decide_eq_false_iff_not] at this ⊢
        omega
      · have := h1.1
        simp only [isDigit, isBlank, decide_eq_true_eq, decide_eq_false_iff_not] at this ⊢
        omega
theorem itoa_lex {n : Int} (h : I64 n) {l : List UInt8} (hl : Follow l) : lexRest (Lib.itoa n ++ l) = (.digits, (Lib.itoa n).length) ∧ runLen isBlank (Lib.itoa n ++ l) = 0 := by
  obtain ⟨c, r, e, h1, h2, h3, h4⟩ := itoa_form (n := n)
  have hn := num_itoa h
  rw [e] at hn ⊢
  have hm : runLen isDigit l = 0 := by rcases hl with rfl | ⟨r, rfl | rfl⟩ <;> rfl
  have hr := runLen_full hm r h1
  constructor
  · show lexCons c (r ++ l) = _
    unfold lexCons
    rw [h3, h2, hr, List.take_left, hn]
    rfl
  · show (if isBlank c then _ else 0) = 0
    rw [h4]
    rfl
theorem quoted_lex {s l : List UInt8} (h1 : s.length ≤ 64) (h2 : s.all notQuote = true) : lexRest (34 :: (s ++ [34]) ++ l) = (.quoted, s.length + 2) := by
  have hr : runLen notQuote (s ++ 34 :: l) = s.length := runLen_full rfl s h2
  show lexCons 34 (s ++ [34] ++ l) = _
  rw [List.append_assoc]
  show lexCons 34 (s ++ 34 :: l) = _
  unfold lexCons
  rw [hr, if_neg (by decide), if_neg (by decide), if_pos (by decide), if_pos ⟨by simp, h1⟩]

/-! ## tests -/
theorem adv_tk {U : List UInt8} {p q : Nat} {k : TK} {w : List UInt8} (h : Tk U p k w q) : (lang U).adv false p = .ok q := by
  rw [adv_lazy]
  show Except.ok (nextOf U p) = _
  rw [h.next]
theorem test_tk {U : List UInt8} {p p1 p2 p3 f k : Nat} {w1 w2 w3 : List UInt8} {k3 : TK} {n : Nd} (h1 : Tk U p .word w1 p1) (hf : fieldNames.idxOf w1 = f) (hf' : f < 14) (h2 : Tk U p1 .mark w2 p2) (hk : askNames.idxOf w2 = k) (hk' : k < 6) (h3 : Tk U p2 k3 w3 p3) (hv : testVal U f k p2 = some n) :
    (lang U).test false p = .ok n p3 := by
  show testG (lang U).adv (atOf U) (isField U) (isAsk U) (fun p p1 p2 => testVal U (fieldOf U p) (askOf U p1) p2) false p = _
  have e1 : fieldOf U p = f := by unfold fieldOf; rw [h1.text, hf]
  have e2 : askOf U p1 = k := by unfold askOf; rw [h2.text, hk]
  unfold testG
  rw [if_pos (show isField U p from ⟨h1.kind, by rw [e1]; exact hf'⟩), adv_tk h1]
  simp only []
  rw [if_pos (show isAsk U p1 from ⟨h2.kind, by rw [e2]; exact hk'⟩), adv_tk h2]
  simp only [e1, e2, hv]
  rw [adv_tk h3]
theorem read_test {U : List UInt8} {pre post : List UInt8} {n : Nd} (hV : Valid n) (hr : rankOf n = 2) (hn : ∀ m, n ≠ .not m) (hU : U = pre ++ (ftxt n ++ post)) (hp : Follow post) (d : Nat) : Reads (lang U) false .one d pre.length (.ok n (pre.length + (ftxt n).length)) := by
  have key : ∀ (f k : Nat) (v : List UInt8) (k3 : TK), f < 14 → k < 6 → ftxt n = fieldNames.getD f [] ++ 32 :: (askNames.getD k [] ++ 32 :: v) → lexRest (v ++ post) = (k3, v.length) → runLen isBlank (v ++ post) = 0 →
      (∀ p2, Tk U p2 k3 v (pre.length + (ftxt n).length) → testVal U f k p2 = some n) → Reads (lang U) false .one d pre.length (.ok n (pre.length + (ftxt n).length)) := by
    intro f k v k3 hf hk he hv hb ht
    obtain ⟨a1, a2, a3⟩ := field_lex hf (askNames.getD k [] ++ 32 :: v ++ post)
    obtain ⟨b1, b2, b3⟩ := ask_lex hk (v ++ post)
    have t1 : Tk U pre.length .word (fieldNames.getD f []) (pre.length + 0 + (fieldNames.getD f []).length) := tk_mk (l := fieldNames.getD f [] ++ 32 :: (askNames.getD k [] ++ 32 :: v ++ post)) (by rw [hU, he]; simp) a2 a1 (by simp)
    have t2 : Tk U (pre ++ fieldNames.getD f []).length .mark (askNames.getD k []) ((pre ++ fieldNames.getD f []).length + 1 + (askNames.getD k []).length) := tk_mk (l := 32 :: (askNames.getD k [] ++ 32 :: (v ++ post))) (by rw [hU, he]; simp) (show runLen isBlank _ + 1 = 1 by rw [b3]) b1 (by simp)
    have t3 : Tk U (pre ++ fieldNames.getD f [] ++ 32 :: askNames.getD k []).length k3 v ((pre ++ fieldNames.getD f [] ++ 32 :: askNames.getD k []).length + 1 + v.length) := tk_mk (l := 32 :: (v ++ post)) (by rw [hU, he]; simp) (show runLen isBlank _ + 1 = 1 by rw [hb]) hv (by simp)
    have l1 : pre.length + 0 + (fieldNames.getD f []).length = (pre ++ fieldNames.getD f []).length := by rw [List.length_append]; omega
    have l2 : (pre ++ fieldNames.getD f []).length + 1 + (askNames.getD k []).length = (pre ++ fieldNames.getD f [] ++ 32 :: askNames.getD k []).length := by simp only [List.length_append, List.length_cons]; omega
    have l3 : (pre ++ fieldNames.getD f [] ++ 32 :: askNames.getD k []).length + 1 + v.length = pre.length + (ftxt n).length := by rw [he]; simp only [List.length_append, List.length_cons]; omega
    rw [l1] at t1
    rw [l2] at t2
    rw [l3] at t3
    have hnot : fieldNames.getD f [] ≠ wNot ∧ fieldNames.getD f [] ≠ wOpen := by
      have : ∀ i, i < 14 → fieldNames.getD i [] ≠ wNot ∧ fieldNames.getD i [] ≠ wOpen := by decide
      exact this f hf
    have hres := test_tk t1 a3 hf t2 b2 hk t3 (ht _ t3)
    rw [← hres]
    exact .test (fun h => hnot.1 (t1.text.symm.trans h.2)) (fun h => hnot.2 (t1.text.symm.trans h.2))
  cases n with
  | num f k v =>
    obtain ⟨hf, hk, hv⟩ := hV
    by_cases hs : f = 2 ∧ 1 ≤ v ∧ v ≤ 7
    · obtain ⟨c1, c2, c3⟩ := status_lex (i := v.toNat - 1) (by omega) hp
      refine key f k (statusNames.getD (v.toNat - 1) []) .word (by omega) hk (by show numT f k v = _; unfold numT; rw [if_pos hs]) c1 c3 fun p2 t => ?_
      unfold testVal
      rw [t.kind, t.text, c2, if_neg (by simp), if_neg (by simp), if_pos ⟨hs.1, rfl, by omega⟩]
      congr 2
      omega
    · obtain ⟨c1, c2⟩ := itoa_lex hv hp
      refine key f k (Lib.itoa v) .digits (by omega) hk (by show numT f k v = _; unfold numT; rw [if_neg hs]) c1 c2 fun p2 t => ?_
      unfold testVal
      rw [t.kind, t.text, num_itoa hv, if_neg (by simp), if_pos ⟨by omega, rfl⟩]
      rfl
  | idt k s =>
    obtain ⟨hk, hl, hq⟩ := hV
    have c1 := quoted_lex (l := post) hl hq
    refine key 13 k (34 :: (s ++ [34])) .quoted (by omega) hk rfl (by rw [c1]; simp) rfl fun p2 t => ?_
    unfold testVal
    rw [t.kind, t.text, if_pos ⟨rfl, rfl⟩]
    simp
  | not m => exact (hn m rfl).elim
  | all a b => simp [rankOf] at hr
  | any a b => simp [rankOf] at hr

/-! ## a blank ahead -/
theorem lex_blank {U pre l : List UInt8} (hU : U = pre ++ 32 :: l) : lex U pre.length = lex U (pre.length + 1) := by
  have h1 : startOf U pre.length = startOf U (pre.length + 1) := by
    unfold startOf
    have e1 : U.drop pre.length = 32 :: l := by rw [hU, List.drop_left]
    have e2 : U.drop (pre.length + 1) = l := by rw [← List.drop_drop, e1]; rfl
    rw [e1, e2]
    show pre.length + (runLen isBlank l + 1) = _
    omega
  unfold lex
  rw [h1]
theorem reads_one_at {U : List UInt8} {p q : Nat} (h : lex U p = lex U q) {d : Nat} {r : Res} (hr : Reads (lang U) false .one d q r) : Reads (lang U) false .one d p r := by
  have hw : ∀ w, isWord U p w ↔ isWord U q w := fun w => by unfold isWord; rw [h]
  have ha : (lang U).adv false p = (lang U).adv false q := by rw [adv_lazy, adv_lazy]; show Except.ok (lex U p).next = Except.ok (lex U q).next; rw [h]
  have ht : (lang U).test false p = (lang U).test false q := by
    show testG (lang U).adv (atOf U) (isField U) (isAsk U) (fun p p1 p2 => testVal U (fieldOf U p) (askOf U p1) p2) false p = testG (lang U).adv (atOf U) (isField U) (isAsk U) (fun p p1 p2 => testVal U (fieldOf U p) (askOf U p1) p2) false q
    have e1 : fieldOf U p = fieldOf U q := by unfold fieldOf; rw [h]
    have e2 : atOf U p = atOf U q := by unfold atOf; rw [h]
    have e3 : isField U p ↔ isField U q := by unfold isField; rw [h, e1]
    unfold testG
    simp only [ha, e1, e2]
    by_cases hf : isField U q
    · rw [if_pos hf, if_pos (e3.2 hf)]
    · rw [if_neg hf, if_neg (fun x => hf (e3.1 x))]
  have hat : (lang U).at_ p = (lang U).at_ q := by show (lex U p).at_ = (lex U q).at_; rw [h]
  cases hr with
  | test h1 h2 => rw [← ht]; exact .test (fun x => h1 ((hw _).1 x)) (fun x => h2 ((hw _).1 x))
  | deep h hd => rw [← hat]; exact .deep (h.imp (hw _).2 (hw _).2) hd
  | notBad h hd hx => exact .notBad ((hw _).2 h) hd (ha.trans hx)
  | notOk h hd hx hr => exact .notOk ((hw _).2 h) hd (ha.trans hx) hr
  | notFail h hd hx hr => exact .notFail ((hw _).2 h) hd (ha.trans hx) hr
  | openBad h0 h hd hx => exact .openBad (fun x => h0 ((hw _).1 x)) ((hw _).2 h) hd (ha.trans hx)
  | openFail h0 h hd hx hr => exact .openFail (fun x => h0 ((hw _).1 x)) ((hw _).2 h) hd (ha.trans hx) hr
  | openNot h0 h hd hx hr hc => exact .openNot (fun x => h0 ((hw _).1 x)) ((hw _).2 h) hd (ha.trans hx) hr hc
  | openClose h0 h hd hx hr hc hy => exact .openClose (fun x => h0 ((hw _).1 x)) ((hw _).2 h) hd (ha.trans hx) hr hc hy
  | openOk h0 h hd hx hr hc hy => exact .openOk (fun x => h0 ((hw _).1 x)) ((hw _).2 h) hd (ha.trans hx) hr hc hy
theorem reads_all_at {U : List UInt8} {p q : Nat} (h : lex U p = lex U q) {d : Nat} {r : Res} (hr : Reads (lang U) false .all d q r) : Reads (lang U) false .all d p r := by
  cases hr with
  | allFail hr => exact .allFail (reads_one_at h hr)
  | allOk hr hm => exact .allOk (reads_one_at h hr) hm

/-! ## the whole -/
/-- behind an any nothing stands but the end, a bracket, or another or -/
def FollowAny (l : List UInt8) : Prop := l = [] ∨ ∃ r, l = 41 :: r ∨ l = sOr ++ r
theorem FollowAny.follow {l : List UInt8} (h : FollowAny l) : Follow l := by
  rcases h with rfl | ⟨r, rfl | rfl⟩
  · exact .inl rfl
  · exact .inr ⟨r, .inr rfl⟩
  · exact .inr ⟨_, .inl rfl⟩
theorem follow_and (r : List UInt8) : Follow (sAnd ++ r) := .inr ⟨_, .inl rfl⟩
theorem no_and {U pre l : List UInt8} (hU : U = pre ++ l) (hl : FollowAny l) : ¬ isWord U pre.length wAnd := by
  rcases hl with rfl | ⟨r, rfl | rfl⟩
  · rw [List.append_nil] at hU; subst hU; exact ended_word
  · exact (stands_mk hU (w := wClose) (k := .mark) (n := 1) (j := 0) rfl rfl (.inr rfl) rfl).not (by decide)
  · exact (stands_mk hU (w := wOr) (k := .word) (n := 2) (j := 1) rfl rfl (.inl rfl) rfl).not (by decide)
def T1 (n : Nd) : List UInt8 := within 1 n (ftxt n)
def T2 (n : Nd) : List UInt8 := within 2 n (ftxt n)
structure Prints (n : Nd) : Prop where
  one : ∀ {U pre post : List UInt8} {d : Nat}, U = pre ++ (T2 n ++ post) → Follow post → d + depW 2 n (dep n) ≤ 32 → Reads (lang U) false .one d pre.length (.ok (nrm .start n) (pre.length + (T2 n).length))
  all : ∀ {U pre post : List UInt8} {d : Nat} {r : Res}, U = pre ++ (T1 n ++ post) → Follow post → d + depW 1 n (dep n) ≤ 32 → Reads (lang U) false (.allMore (nrm .start n)) d (pre.length + (T1 n).length) r → Reads (lang U) false .all d pre.length r
  more : ∀ {U pre post : List UInt8} {d : Nat} {x : Nd} {r : Res}, U = pre ++ (sAnd ++ (T1 n ++ post)) → Follow post → d + depW 1 n (dep n) ≤ 32 → Reads (lang U) false (.allMore (nrm (.andAfter x) n)) d (pre.length + 5 + (T1 n).length) r → Reads (lang U) false (.allMore x) d pre.length r
  any : ∀ {U pre post : List UInt8} {d : Nat} {r : Res}, U = pre ++ (ftxt n ++ post) → FollowAny post → d + dep n ≤ 32 → Reads (lang U) false (.anyMore (nrm .start n)) d (pre.length + (ftxt n).length) r → Reads (lang U) false .any d pre.length r
  orMore : ∀ {U pre post : List UInt8} {d : Nat} {x : Nd} {r : Res}, U = pre ++ (sOr ++ (ftxt n ++ post)) → FollowAny post → d + dep n ≤ 32 → Reads (lang U) false (.anyMore (nrm (.orAfter x) n)) d (pre.length + 4 + (ftxt n).length) r → Reads (lang U) false (.anyMore x) d pre.length r
/-- behind an and: the blank, then a one -/
theorem and_one {U pre l : List UInt8} (hU : U = pre ++ (sAnd ++ l)) {d : Nat} {x m : Nd} {q : Nat} {r : Res} (h : Reads (lang U) false .one d (pre.length + 5) (.ok m q)) (hm : Reads (lang U) false (.allMore (.all x m)) d q r) : Reads (lang U) false (.allMore x) d pre.length r := by
  have hs : Stands U pre.length wAnd (pre.length + 1 + 3) := stands_mk hU (w := wAnd) (k := .word) (n := 3) (j := 1) rfl rfl (.inl rfl) rfl
  have hb := lex_blank (U := U) (pre := pre ++ [32, 97, 110, 100]) (l := l) (by rw [hU]; simp [sAnd])
  have e : (pre ++ [32, 97, 110, 100] : List UInt8).length = pre.length + 4 := by simp
  rw [e] at hb
  refine .allMore hs.word (show (lang U).adv false pre.length = .ok (pre.length + 4) from ?_) (reads_one_at hb h) hm
  rw [adv_lazy]
  exact congrArg Except.ok hs.next
theorem or_all {U pre l : List UInt8} (hU : U = pre ++ (sOr ++ l)) {d : Nat} {x m : Nd} {q : Nat} {r : Res} (h : Reads (lang U) false .all d (pre.length + 4) (.ok m q)) (hm : Reads (lang U) false (.anyMore (.any x m)) d q r) : Reads (lang U) false (.anyMore x) d pre.length r := by
  have hs : Stands U pre.length wOr (pre.length + 1 + 2) := stands_mk hU (w := wOr) (k := .word) (n := 2) (j := 1) rfl rfl (.inl rfl) rfl
  have hb := lex_blank (U := U) (pre := pre ++ [32, 111, 114]) (l := l) (by rw [hU]; simp [sOr])
  have e : (pre ++ [32, 111, 114] : List UInt8).length = pre.length + 3 := by simp
  rw [e] at hb
  refine .anyMore hs.word (show (lang U).adv false pre.length = .ok (pre.length + 3) from ?_) (reads_all_at hb h) hm
  rw [adv_lazy]
  exact congrArg Except.ok hs.next
/-- what is a one, is an all and an any -/
theorem prints_of_all {n : Nd} (hr : rankOf n ≠ 0) (hp : ∀ x, nrm (.orAfter x) n = .any x (nrm .start n)) (one : ∀ {U pre post : List UInt8} {d : Nat}, U = pre ++ (T2 n ++ post) → Follow post → d + depW 2 n (dep n) ≤ 32 → Reads (lang U) false .one d pre.length (.ok (nrm .start n) (pre.length + (T2 n).length)))
    (all : ∀ {U pre post : List UInt8} {d : Nat} {r : Res}, U = pre ++ (T1 n ++ post) → Follow post → d + depW 1 n (dep n) ≤ 32 → Reads (lang U) false (.allMore (nrm .start n)) d (pre.length + (T1 n).length) r → Reads (lang U) false .all d pre.length r)
    (more : ∀ {U pre post : List UInt8} {d : Nat} {x : Nd} {r : Res}, U = pre ++ (sAnd ++ (T1 n ++ post)) → Follow post → d + depW 1 n (dep n) ≤ 32 → Reads (lang U) false (.allMore (nrm (.andAfter x) n)) d (pre.length + 5 + (T1 n).length) r → Reads (lang U) false (.allMore x) d pre.length r) : Prints n := by
  have e1 : T1 n = ftxt n := within_no (by omega) _
  have e2 : depW 1 n (dep n) = dep n := if_neg (by omega)
  have ends : ∀ {U pre post : List UInt8} {d : Nat}, U = pre ++ (ftxt n ++ post) → FollowAny post → d + dep n ≤ 32 → Reads (lang U) false .all d pre.length (.ok (nrm .start n) (pre.length + (ftxt n).length)) := by
    intro U pre post d hU hp hd
    have hna : ¬ isWord U (pre ++ ftxt n).length wAnd := no_and (l := post) (by rw [hU]; simp) hp
    rw [List.length_append] at hna
    exact all (by rw [e1]; exact hU) hp.follow (by rw [e2]; exact hd) (by rw [e1]; exact .allEnd hna)
  refine ⟨one, all, more, fun {U pre post d r} hU hp hd hm => .anyOk (ends hU hp hd) hm, fun {U pre post d x r} hU hp' hd hm => ?_⟩
  have h := ends (pre := pre ++ sOr) (U := U) (by rw [hU]; simp) hp' hd
  have e : (pre ++ sOr).length = pre.length + 4 := by rw [List.length_append]; rfl
  rw [e] at h
  rw [hp] at hm
  exact or_all hU h hm
theorem prints_of_one {n : Nd} (hr : rankOf n = 2) (hp : ∀ m : Mode, nrm m n = m.put (nrm .start n)) (one : ∀ {U pre post : List UInt8} {d : Nat}, U = pre ++ (T2 n ++ post) → Follow post → d + depW 2 n (dep n) ≤ 32 → Reads (lang U) false .one d pre.length (.ok (nrm .start n) (pre.length + (T2 n).length))) : Prints n := by
  have e1 : T1 n = T2 n := by unfold T1 T2; rw [within_no (by omega), within_no (by omega)]
  have e2 : depW 1 n (dep n) = depW 2 n (dep n) := by unfold depW; rw [if_neg (by omega), if_neg (by omega)]
  refine prints_of_all (by omega) (fun x => hp (.orAfter x)) one ?_ ?_
  · intro U pre post d r hU hF hd hm
    rw [e1] at hU hm
    rw [e2] at hd
    exact .allOk (one hU hF hd) hm
  · intro U pre post d x r hU hF hd hm
    rw [e1] at hU hm
    rw [e2] at hd
    have h := one (pre := pre ++ sAnd) (U := U) (d := d) (by rw [hU]; simp) hF hd
    have e : (pre ++ sAnd).length = pre.length + 5 := by rw [List.length_append]; rfl
    rw [e] at h
    rw [hp] at hm
    exact and_one hU h hm
/-- in brackets -/
theorem one_brk {n : Nd} (hr : rankOf n < 2) (any : ∀ {U pre post : List UInt8} {d : Nat} {r : Res}, U = pre ++ (ftxt n ++ post) → FollowAny post → d + dep n ≤ 32 → Reads (lang U) false (.anyMore (nrm .start n)) d (pre.length + (ftxt n).length) r → Reads (lang U) false .any d pre.length r)
    {U pre post : List UInt8} {d : Nat} (hU : U = pre ++ (T2 n ++ post)) (hd : d + depW 2 n (dep n) ≤ 32) : Reads (lang U) false .one d pre.length (.ok (nrm .start n) (pre.length + (T2 n).length)) := by
  have e1 : T2 n = 40 :: (ftxt n ++ [41]) := if_pos hr
  have e2 : depW 2 n (dep n) = dep n + 1 := if_pos hr
  rw [e1] at hU ⊢
  rw [e2] at hd
  have o1 : Stands U pre.length wOpen (pre.length + 0 + 1) := stands_mk (l := 40 :: (ftxt n ++ [41]) ++ post) hU (w := wOpen) (k := .mark) (n := 1) (j := 0) rfl rfl (.inr rfl) rfl
  have c1 : Stands U (pre ++ 40 :: ftxt n).length wClose ((pre ++ 40 :: ftxt n).length + 0 + 1) := stands_mk (l := 41 :: post) (by rw [hU]; simp) (w := wClose) (k := .mark) (n := 1) (j := 0) rfl rfl (.inr rfl) rfl
  have hna : ¬ isWord U (pre ++ 40 :: ftxt n).length wOr := c1.not (by decide)
  have el : (pre ++ 40 :: ftxt n).length = pre.length + 1 + (ftxt n).length := by simp; omega
  rw [el] at c1 hna
  have hin := any (U := U) (pre := pre ++ [40]) (post := 41 :: post) (d := d + 1) (by rw [hU]; simp) (.inr ⟨_, .inl rfl⟩) (by omega) (r := .ok (nrm .start n) (pre.length + 1 + (ftxt n).length)) (by
    rw [show (pre ++ [40] : List UInt8).length = pre.length + 1 by simp]; exact .anyEnd hna)
  rw [show (pre ++ [40] : List UInt8).length = pre.length + 1 by simp] at hin
  have ef : pre.length + 1 + (ftxt n).length + 0 + 1 = pre.length + (40 :: (ftxt n ++ [41])).length := by simp; omega
  rw [ef] at c1
  refine .openOk (p1 := pre.length + 1) (p2 := pre.length + 1 + (ftxt n).length) (o1.not (by decide)) o1.word (by omega) ?_ hin c1.word ?_
  · rw [adv_lazy]; exact congrArg Except.ok o1.next
  · rw [adv_lazy]; exact congrArg Except.ok c1.next
theorem prints (n : Nd) : Valid n → Prints n := by
  induction n with
  | num f k v =>
    intro hV
    refine prints_of_one rfl (fun m => by cases m <;> rfl) ?_
    intro U pre post d hU hF hd
    exact read_test hV rfl (fun m h => by cases h) hU hF d
  | idt k s =>
    intro hV
    refine prints_of_one rfl (fun m => by cases m <;> rfl) ?_
    intro U pre post d hU hF hd
    exact read_test hV rfl (fun m h => by cases h) hU hF d
  | not n ih =>
    intro hV
    have P := ih hV
    refine prints_of_one rfl (fun m => by cases m <;> rfl) ?_
    intro U pre post d hU hF hd
    have e1 : T2 (.not n) = sNot ++ T2 n := rfl
    have e2 : depW 2 (.not n) (dep (.not n)) = depW 2 n (dep n) + 1 := rfl
    rw [e1] at hU ⊢
    rw [e2] at hd
    have hs : Stands U pre.length wNot (pre.length + 0 + 3) := stands_mk (l := sNot ++ T2 n ++ post) hU (w := wNot) (k := .word) (n := 3) (j := 0) rfl rfl (.inl rfl) rfl
    have hb := lex_blank (U := U) (pre := pre ++ [110, 111, 116]) (l := T2 n ++ post) (by rw [hU]; simp [sNot])
    have e : (pre ++ [110, 111, 116] : List UInt8).length = pre.length + 3 := by simp
    rw [e] at hb
    have h := P.one (U := U) (pre := pre ++ sNot) (post := post) (d := d + 1) (by rw [hU]; simp) hF (by omega)
    have e' : (pre ++ sNot).length = pre.length + 4 := by rw [List.length_append]; rfl
    rw [e'] at h
    have el : pre.length + (sNot ++ T2 n).length = pre.length + 4 + (T2 n).length := by rw [List.length_append, show sNot.length = 4 from rfl]; omega
    rw [el]
    refine .notOk (p1 := pre.length + 3) hs.word (by omega) ?_ (reads_one_at hb h)
    rw [adv_lazy]; exact congrArg Except.ok hs.next
  | all a b iha ihb =>
    intro hV
    have A := iha hV.1
    have B := ihb hV.2
    have e1 : ftxt (.all a b) = T1 a ++ sAnd ++ T1 b := rfl
    have e1' : T1 (.all a b) = T1 a ++ sAnd ++ T1 b := rfl
    have ed : depW 1 (.all a b) (dep (.all a b)) = max (depW 1 a (dep a)) (depW 1 b (dep b)) := rfl
    have all : ∀ {U pre post : List UInt8} {d : Nat} {r : Res}, U = pre ++ (T1 (.all a b) ++ post) → Follow post → d + depW 1 (.all a b) (dep (.all a b)) ≤ 32 → Reads (lang U) false (.allMore (nrm .start (.all a b))) d (pre.length + (T1 (.all a b)).length) r → Reads (lang U) false .all d pre.length r := by
      intro U pre post d r hU hF hd hm
      rw [ed] at hd
      rw [e1'] at hU hm
      refine A.all (post := sAnd ++ (T1 b ++ post)) (by rw [hU]; simp) (follow_and _) (by omega) ?_
      have h := B.more (U := U) (pre := pre ++ T1 a) (post := post) (d := d) (x := nrm .start a) (r := r) (by rw [hU]; simp) hF (by omega)
      rw [List.length_append] at h
      refine h ?_
      have el : pre.length + (T1 a ++ sAnd ++ T1 b).length = pre.length + (T1 a).length + 5 + (T1 b).length := by rw [List.length_append, List.length_append, show sAnd.length = 5 from rfl]; omega
      rw [el] at hm
      exact hm
    have anyP : ∀ {U pre post : List UInt8} {d : Nat} {r : Res}, U = pre ++ (ftxt (.all a b) ++ post) → FollowAny post → d + dep (.all a b) ≤ 32 → Reads (lang U) false (.anyMore (nrm .start (.all a b))) d (pre.length + (ftxt (.all a b)).length) r → Reads (lang U) false .any d pre.length r := by
      intro U pre post d r hU hp hd hm
      have hna : ¬ isWord U (pre ++ ftxt (.all a b)).length wAnd := no_and (l := post) (by rw [hU]; simp) hp
      rw [List.length_append] at hna
      exact .anyOk (all hU hp.follow hd (.allEnd hna)) hm
    refine prints_of_all (by simp [rankOf]) (fun x => rfl) (fun {U pre post d} hU hF hd => one_brk (by simp [rankOf]) anyP hU hd) all ?_
    intro U pre post d x r hU hF hd hm
    rw [ed] at hd
    rw [e1'] at hU hm
    refine A.more (post := sAnd ++ (T1 b ++ post)) (by rw [hU]; simp) (follow_and _) (by omega) ?_
    have h := B.more (U := U) (pre := pre ++ sAnd ++ T1 a) (post := post) (d := d) (x := nrm (.andAfter x) a) (r := r) (by rw [hU]; simp) hF (by omega)
    rw [List.length_append, List.length_append, show sAnd.length = 5 from rfl] at h
    refine h ?_
    have el : pre.length + 5 + (T1 a ++ sAnd ++ T1 b).length = pre.length + 5 + (T1 a).length + 5 + (T1 b).length := by rw [List.length_append, List.length_append, show sAnd.length = 5 from rfl]; omega
    rw [el] at hm
    exact hm
  | any a b iha ihb =>
    intro hV
    have A := iha hV.1
    have B := ihb hV.2
    have e1 : ftxt (.any a b) = ftxt a ++ sOr ++ ftxt b := rfl
    have ed : dep (.any a b) = max (dep a) (dep b) := rfl
    have anyP : ∀ {U pre post : List UInt8} {d : Nat} {r : Res}, U = pre ++ (ftxt (.any a b) ++ post) → FollowAny post → d + dep (.any a b) ≤ 32 → Reads (lang U) false (.anyMore (nrm .start (.any a b))) d (pre.length + (ftxt (.any a b)).length) r → Reads (lang U) false .any d pre.length r := by
      intro U pre post d r hU hp hd hm
      rw [ed] at hd
      rw [e1] at hU hm
      refine A.any (post := sOr ++ (ftxt b ++ post)) (by rw [hU]; simp) (.inr ⟨_, .inr rfl⟩) (by omega) ?_
      have h := B.orMore (U := U) (pre := pre ++ ftxt a) (post := post) (d := d) (x := nrm .start a) (r := r) (by rw [hU]; simp) hp (by omega)
      rw [List.length_append] at h
      refine h ?_
      have el : pre.length + (ftxt a ++ sOr ++ ftxt b).length = pre.length + (ftxt a).length + 4 + (ftxt b).length := by rw [List.length_append, List.length_append, show sOr.length = 4 from rfl]; omega
      rw [el] at hm
      exact hm
    have orP : ∀ {U pre post : List UInt8} {d : Nat} {x : Nd} {r : Res}, U = pre ++ (sOr ++ (ftxt (.any a b) ++ post)) → FollowAny post → d + dep (.any a b) ≤ 32 → Reads (lang U) false (.anyMore (nrm (.orAfter x) (.any a b))) d (pre.length + 4 + (ftxt (.any a b)).length) r → Reads (lang U) false (.anyMore x) d pre.length r := by
      intro U pre post d x r hU hp hd hm
      rw [ed] at hd
      rw [e1] at hU hm
      refine A.orMore (post := sOr ++ (ftxt b ++ post)) (by rw [hU]; simp) (.inr ⟨_, .inr rfl⟩) (by omega) ?_
      have h := B.orMore (U := U) (pre := pre ++ sOr ++ ftxt a) (post := post) (d := d) (x := nrm (.orAfter x) a) (r := r) (by rw [hU]; simp) hp (by omega)
      rw [List.length_append, List.length_append, show sOr.length = 4 from rfl] at h
      refine h ?_
      have el : pre.length + 4 + (ftxt a ++ sOr ++ ftxt b).length = pre.length + 4 + (ftxt a).length + 4 + (ftxt b).length := by rw [List.length_append, List.length_append, show sOr.length = 4 from rfl]; omega
      rw [el] at hm
      exact hm
    have t12 : T1 (.any a b) = T2 (.any a b) := rfl
    have d12 : depW 1 (.any a b) (dep (.any a b)) = depW 2 (.any a b) (dep (.any a b)) := rfl
    have one : ∀ {U pre post : List UInt8} {d : Nat}, U = pre ++ (T2 (.any a b) ++ post) → Follow post → d + depW 2 (.any a b) (dep (.any a b)) ≤ 32 → Reads (lang U) false .one d pre.length (.ok (nrm .start (.any a b)) (pre.length + (T2 (.any a b)).length)) := fun {U pre post d} hU hF hd => one_brk (by simp [rankOf]) anyP hU hd
    refine ⟨one, ?_, ?_, anyP, orP⟩
    · intro U pre post d r hU hF hd hm
      rw [t12] at hU hm
      rw [d12] at hd
      exact .allOk (one hU hF hd) hm
    · intro U pre post d x r hU hF hd hm
      rw [t12] at hU hm
      rw [d12] at hd
      have h := one (pre := pre ++ sAnd) (U := U) (d := d) (by rw [hU]; simp) hF hd
      have e : (pre ++ sAnd).length = pre.length + 5 := by rw [List.length_append]; rfl
      rw [e] at h
      exact and_one hU h hm
/-- a filter's text, if it isn't too long, is read as one that holds of the same and has that text -/
theorem text_back {n : Nd} (hV : Valid n) (hd : dep n ≤ 32) (hl : (ftxt n).length ≤ 512) : ParseR (ftxt n) (.ok (some (nrm .start n))) := by
  have P := prints n hV
  have hne : (lex (ftxt n) 0).kind ≠ .ended := by
    have key : ∀ m : Nd, Valid m → ∃ c r, ftxt m = c :: r ∧ isBlank c = false := by
      intro m
      induction m with
      | num f k v =>
        intro h
        have : ∀ i, i < 14 → ∃ c r, fieldNames.getD i [] = c :: r ∧ isBlank c = false := by
          intro i hi
          have h2 : ∀ i, i < 14 → (fieldNames.getD i []).head?.any (fun c => !isBlank c) = true := by decide
          have := h2 i hi
          cases hx : fieldNames.getD i [] with
          | nil => rw [hx] at this; cases this
          | cons c r => rw [hx] at this; exact ⟨c, r, rfl, by simpa using this⟩
        obtain ⟨c, r, h1, h2⟩ := this f (by have := h.1; omega)
        exact ⟨c, _, by show numT f k v = _; unfold numT; rw [h1]; rfl, h2⟩
      | idt k s => intro _; exact ⟨105, _, rfl, by decide⟩
      | not m => intro _; exact ⟨110, _, rfl, by decide⟩
      | all a b iha _ =>
        intro h
        obtain ⟨c, r, h1, h2⟩ := iha h.1
        show ∃ c r, within 1 a (ftxt a) ++ sAnd ++ within 1 b (ftxt b) = c :: r ∧ _
        unfold within
        split
        · exact ⟨40, _, rfl, by decide⟩
        · rw [h1]; exact ⟨c, _, rfl, h2⟩
      | any a b iha _ =>
        intro h
        obtain ⟨c, r, h1, h2⟩ := iha h.1
        exact ⟨c, r ++ (sOr ++ ftxt b), by show ftxt a ++ sOr ++ ftxt b = _; rw [h1]; simp, h2⟩
    obtain ⟨c, r, h1, h2⟩ := key n hV
    intro he
    have h3 : (ftxt n).drop (startOf (ftxt n) 0) = [] := lexRest_end.1 he
    rw [h1] at h3
    have h4 : startOf (c :: r) 0 = 0 := by
      unfold startOf
      show 0 + (if isBlank c then _ else 0) = 0
      rw [h2]; rfl
    rw [h4] at h3
    cases h3
  have hend : (lex (ftxt n) (ftxt n).length).kind = .ended := by
    have := (lex_at (U := ftxt n) (pre := ftxt n) (l := []) (by simp)).1
    rw [this]
    rfl
  refine .ok hl hne (p := (ftxt n).length) ?_ hend
  have h := P.any (U := ftxt n) (pre := []) (post := []) (d := 0) (r := .ok (nrm .start n) (ftxt n).length) (by simp) (.inl rfl) (by omega)
  refine h ?_
  rw [show ([] : List UInt8).length + (ftxt n).length = (ftxt n).length by simp]
  exact .anyEnd ended_word
/-- what the program reads is valid, and not too deep -/
theorem parse_valid {s : List UInt8} {n : Nd} (h : ParseP s (.ok (some n))) : Valid n ∧ dep n ≤ 32 := by
  cases h with
  | ok h hb he hr hp =>
    have h1 := reads_valid (fun e p n q h => (test_valid e p n q h).1) hr rfl
    have h2 := reads_dep (fun e p n q h => (test_valid e p n q h).2) hr rfl
    exact ⟨h1, by have := h2 (by omega); omega⟩
end Go.Proofs.YtkbffgnhiohpcaaDoor.Filt
