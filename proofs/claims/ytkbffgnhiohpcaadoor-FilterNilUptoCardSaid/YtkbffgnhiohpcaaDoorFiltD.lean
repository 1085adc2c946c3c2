/- Filters (layer 21): a filter's text is read again (the plain law of FilterBack). No program in sight. -/
import Derived.Test.YtkbffgnhiohpcaaDoorFiltC
import Derived.Lib.ItoaNum
namespace Go.Proofs.YtkbffgnhiohpcaaDoor.Filt
set_option linter.unusedSimpArgs false
set_option linter.unusedVariables false

/-! ## the texts of tests -/
def numT (f k : Nat) (n : Int) : List UInt8 := fieldNames.getD f [] ++ 32 :: (askNames.getD k [] ++ 32 :: (if f = 2 ∧ 1 ≤ n ∧ n ≤ 7 then statusNames.getD (n.toNat - 1) [] else Lib.itoa n))
def idtT (k : Nat) (s : List UInt8) : List UInt8 := [105, 100] ++ 32 :: (askNames.getD k [] ++ 32 :: (34 :: (s ++ [34])))
abbrev ftxt : Nd → List UInt8 := txt numT idtT
def I64 (n : Int) : Prop := -9223372036854775808 ≤ n ∧ n ≤ 9223372036854775807
/-- what is read, is so -/
def Valid : Nd → Prop
  | .num f k n => f < 13 ∧ k < 6 ∧ I64 n
  | .idt k s => k < 6 ∧ s.length ≤ 64 ∧ s.all notQuote = true
  | .not n => Valid n
  | .all a b => Valid a ∧ Valid b
  | .any a b => Valid a ∧ Valid b
/-- how deep a text is -/
def depW (r : Nat) (n : Nd) (d : Nat) : Nat := if rankOf n < r then d + 1 else d
def dep : Nd → Nat
  | .num _ _ _ => 0
  | .idt _ _ => 0
  | .not n => depW 2 n (dep n) + 1
  | .all a b => max (depW 1 a (dep a)) (depW 1 b (dep b))
  | .any a b => max (dep a) (dep b)
/-- behind what is read: what comes before it, if something does -/
inductive Mode where
  | start
  | andAfter (x : Nd)
  | orAfter (x : Nd)
def Mode.put : Mode → Nd → Nd
  | .start, n => n
  | .andAfter x, n => .all x n
  | .orAfter x, n => .any x n
/-- how a filter's text is read -/
def nrm : Mode → Nd → Nd
  | m, .num f k n => m.put (.num f k n)
  | m, .idt k s => m.put (.idt k s)
  | m, .not n => m.put (.not (nrm .start n))
  | .andAfter x, .all a b => nrm (.andAfter (nrm (.andAfter x) a)) b
  | m, .all a b => m.put (nrm (.andAfter (nrm .start a)) b)
  | .orAfter x, .any a b => nrm (.orAfter (nrm (.orAfter x) a)) b
  | m, .any a b => m.put (nrm (.orAfter (nrm .start a)) b)
section
variable (hn : Nat → Nat → Int → Bool) (hi : Nat → List UInt8 → Bool)
def hput (m : Mode) (b : Bool) : Bool := match m with | .start => b | .andAfter x => holdsOf hn hi x && b | .orAfter x => holdsOf hn hi x || b
theorem holds_put (m : Mode) (n : Nd) : holdsOf hn hi (m.put n) = hput hn hi m (holdsOf hn hi n) := by cases m <;> rfl
theorem holds_nrm (n : Nd) : ∀ m, holdsOf hn hi (nrm m n) = hput hn hi m (holdsOf hn hi n) := by
  induction n with
  | num f k n => intro m; cases m <;> rfl
  | idt k s => intro m; cases m <;> rfl
  | not n ih => intro m; cases m <;> simp only [nrm, Mode.put, holdsOf, hput, ih]
  | all a b iha ihb => intro m; cases m <;> simp only [nrm, Mode.put, holdsOf, hput, iha, ihb, Bool.and_assoc]
  | any a b iha ihb => intro m; cases m <;> simp only [nrm, Mode.put, holdsOf, hput, iha, ihb, Bool.or_assoc]
end
theorem rank_nrm (n : Nd) : ∀ m, rankOf (nrm m n) = match m with | .start => rankOf n | .andAfter _ => 1 | .orAfter _ => 0 := by
  induction n with
  | num f k n => intro m; cases m <;> rfl
  | idt k s => intro m; cases m <;> rfl
  | not n ih => intro m; cases m <;> rfl
  | all a b iha ihb =>
    intro m
    cases m with
    | start => exact ihb (.andAfter _)
    | andAfter x => exact ihb (.andAfter _)
    | orAfter x => rfl
  | any a b iha ihb =>
    intro m
    cases m with
    | start => exact ihb (.orAfter _)
    | andAfter x => rfl
    | orAfter x => exact ihb (.orAfter _)
section
variable (tn : Nat → Nat → Int → List UInt8) (ti : Nat → List UInt8 → List UInt8)
def tput (m : Mode) (n : Nd) : List UInt8 := match m with
  | .start => txt tn ti n
  | .andAfter x => within 1 x (txt tn ti x) ++ sAnd ++ within 1 n (txt tn ti n)
  | .orAfter x => txt tn ti x ++ sOr ++ txt tn ti n
theorem within_rank {r : Nat} {a b : Nd} (h : rankOf a = rankOf b) (t : List UInt8) : within r a t = within r b t := by unfold within; rw [h]
theorem within_no {r : Nat} {a : Nd} (h : r ≤ rankOf a) (t : List UInt8) : within r a t = t := by unfold within; rw [if_neg (by omega)]
theorem txt_nrm (n : Nd) : ∀ m, txt tn ti (nrm m n) = tput tn ti m n := by
  induction n with
  | num f k n => intro m; cases m <;> rfl
  | idt k s => intro m; cases m <;> rfl
  | not n ih =>
    intro m
    have h1 : ∀ t, within 2 (nrm .start n) t = within 2 n t := within_rank (rank_nrm n .start)
    have e : txt tn ti (.not (nrm .start n)) = txt tn ti (.not n) := by simp only [txt, ih, tput, h1]
    cases m
    · exact e
    · rename_i x
      show within 1 x (txt tn ti x) ++ sAnd ++ within 1 (.not n) (txt tn ti (.not (nrm .start n))) = within 1 x (txt tn ti x) ++ sAnd ++ within 1 (.not n) (txt tn ti (.not n))
      rw [e]
    · rename_i x
      show txt tn ti x ++ sOr ++ txt tn ti (.not (nrm .start n)) = txt tn ti x ++ sOr ++ txt tn ti (.not n)
      rw [e]
  | all a b iha ihb =>
    intro m
    have h0 : ∀ t, within 1 (nrm .start a) t = within 1 a t := within_rank (rank_nrm a .start)
    have e : txt tn ti (nrm (.andAfter (nrm .start a)) b) = txt tn ti (.all a b) := by rw [ihb]; simp only [tput, iha, txt, h0]
    cases m with
    | start => exact e
    | andAfter x =>
      have h1 : ∀ t, within 1 (nrm (.andAfter x) a) t = t := within_no (by rw [rank_nrm]; exact Nat.le_refl 1)
      have h2 : ∀ t, within 1 (.all a b) t = t := within_no (Nat.le_refl 1)
      simp only [nrm, ihb, tput, iha, h1, h2, txt, List.append_assoc]
    | orAfter x =>
      show txt tn ti x ++ sOr ++ txt tn ti (nrm (.andAfter (nrm .start a)) b) = txt tn ti x ++ sOr ++ txt tn ti (.all a b)
      rw [e]
  | any a b iha ihb =>
    intro m
    have e : txt tn ti (nrm (.orAfter (nrm .start a)) b) = txt tn ti (.any a b) := by rw [ihb]; simp only [tput, iha, txt]
    cases m with
    | start => exact e
    | andAfter x =>
      have h1 : ∀ t, within 1 (nrm (.orAfter (nrm .start a)) b) t = within 1 (.any a b) t := within_rank (by rw [rank_nrm]; rfl)
      show within 1 x (txt tn ti x) ++ sAnd ++ within 1 (nrm (.orAfter (nrm .start a)) b) (txt tn ti (nrm (.orAfter (nrm .start a)) b)) = within 1 x (txt tn ti x) ++ sAnd ++ within 1 (.any a b) (txt tn ti (.any a b))
      rw [e, h1]
    | orAfter x => simp only [nrm, ihb, tput, iha, txt, List.append_assoc]
end

/-! ## what is read is valid, and not too deep -/
theorem depW2 (n : Nd) (d : Nat) : depW 2 n d ≤ d + 1 ∧ d ≤ depW 2 n d ∧ depW 1 n d ≤ depW 2 n d ∧ d ≤ depW 1 n d := by
  unfold depW
  cases n <;> simp [rankOf]
theorem reads_dep {L : Lang} (hT : ∀ e p n q, L.test e p = .ok n q → dep n = 0 ∧ rankOf n = 2) {e : Bool} {nt : NT} {d p : Nat} {r : Res} (h : Reads L e nt d p r) : ∀ {n q}, r = .ok n q →
    match nt with
    | .one => d ≤ 32 → d + depW 2 n (dep n) ≤ 32
    | .all => d ≤ 32 → d + depW 1 n (dep n) ≤ 32
    | .any => d ≤ 32 → d + dep n ≤ 32
    | .allMore x => d + depW 1 x (dep x) ≤ 32 → d + depW 1 n (dep n) ≤ 32
    | .anyMore x => d + dep x ≤ 32 → d + dep n ≤ 32 := by
  induction h with
  | test h1 h2 =>
    intro n q hr hd
    obtain ⟨h1, h2⟩ := hT _ _ _ _ hr
    unfold depW
    rw [h1, h2, if_neg (by omega)]
    omega
  | deep => intro n q hr; cases hr
  | notBad => intro n q hr; cases hr
  | notFail => intro n q hr; cases hr
  | openBad => intro n q hr; cases hr
  | openFail => intro n q hr; cases hr
  | openNot => intro n q hr; cases hr
  | openClose => intro n q hr; cases hr
  | allFail => intro n q hr; cases hr
  | allBad => intro n q hr; cases hr
  | allNo => intro n q hr; cases hr
  | anyFail => intro n q hr; cases hr
  | anyBad => intro n q hr; cases hr
  | anyNo => intro n q hr; cases hr
  | notOk hw hd ha hr ih =>
    intro n q hr hd2
    cases hr
    have := ih rfl (by omega)
    rename_i m
    have e : depW 2 (.not m) (dep (.not m)) = depW 2 m (dep m) + 1 := rfl
    rw [e]
    omega
  | @openOk d p p1 p2 p3 m h0 hw hd ha hr hc hx ih =>
    intro n q hr hd2
    cases hr
    have := ih rfl (by omega)
    have := (depW2 m (dep m)).1
    omega
  | @allOk d p p1 m r hr hm ih1 ih2 =>
    intro n q hr hd
    subst hr
    have := ih1 rfl hd
    have h2 := ih2 rfl
    have := (depW2 m (dep m)).2.2.1
    exact h2 (by omega)
  | allEnd hw => intro n q hr hd; cases hr; exact hd
  | @allMore d p p1 p2 m m2 r hw ha hr hm ih1 ih2 =>
    intro n q hr hd
    subst hr
    have h1 := ih1 rfl (by omega)
    have h2 := ih2 rfl
    have := (depW2 m2 (dep m2)).2.2.1
    refine h2 ?_
    have e : depW 1 (.all m m2) (dep (.all m m2)) = max (depW 1 m (dep m)) (depW 1 m2 (dep m2)) := rfl
    rw [e]
    omega
  | @anyOk d p p1 m r hr hm ih1 ih2 =>
    intro n q hr hd
    subst hr
    have := ih1 rfl hd
    have h2 := ih2 rfl
    have := (depW2 m (dep m)).2.2.2
    exact h2 (by omega)
  | anyEnd hw => intro n q hr hd; cases hr; exact hd
  | @anyMore d p p1 p2 m m2 r hw ha hr hm ih1 ih2 =>
    intro n q hr hd
    subst hr
    have h1 := ih1 rfl (by omega)
    have h2 := ih2 rfl
    have := (depW2 m2 (dep m2)).2.2.2
    refine h2 ?_
    have e : dep (.any m m2) = max (dep m) (dep m2) := rfl
    rw [e]
    omega
theorem reads_valid {L : Lang} (hT : ∀ e p n q, L.test e p = .ok n q → Valid n) {e : Bool} {nt : NT} {d p : Nat} {r : Res} (h : Reads L e nt d p r) : ∀ {n q}, r = .ok n q →
    match nt with
    | .allMore x => Valid x → Valid n
    | .anyMore x => Valid x → Valid n
    | _ => Valid n := by
  induction h with
  | test h1 h2 => intro n q hr; exact hT _ _ _ _ hr
  | deep => intro n q hr; cases hr
  | notBad => intro n q hr; cases hr
  | notFail => intro n q hr; cases hr
  | openBad => intro n q hr; cases hr
  | openFail => intro n q hr; cases hr
  | openNot => intro n q hr; cases hr
  | openClose => intro n q hr; cases hr
  | allFail => intro n q hr; cases hr
  | allBad => intro n q hr; cases hr
  | allNo => intro n q hr; cases hr
  | anyFail => intro n q hr; cases hr
  | anyBad => intro n q hr; cases hr
  | anyNo => intro n q hr; cases hr
  | notOk hw hd ha hr ih => intro n q hr; cases hr; have h := ih rfl; exact h
  | openOk h0 hw hd ha hr hc hx ih => intro n q hr; cases hr; exact ih rfl
  | allOk hr hm ih1 ih2 => intro n q hr; subst hr; exact ih2 rfl (ih1 rfl)
  | allEnd hw => intro n q hr; cases hr; exact id
  | allMore hw ha hr hm ih1 ih2 => intro n q hr hx; subst hr; exact ih2 rfl ⟨hx, ih1 rfl⟩
  | anyOk hr hm ih1 ih2 => intro n q hr; subst hr; exact ih2 rfl (ih1 rfl)
  | anyEnd hw => intro n q hr; cases hr; exact id
  | anyMore hw ha hr hm ih1 ih2 => intro n q hr hx; subst hr; exact ih2 rfl ⟨hx, ih1 rfl⟩
theorem numOf_i64 {l : List UInt8} {n : Int} (h : numOf l = some n) : I64 n := by
  unfold numOf at h
  unfold I64
  split at h
  · split at h
    · rename_i h1
      cases h
      simp only [Bool.and_eq_true, decide_eq_true_eq] at h1
      omega
    · cases h
  · split at h
    · rename_i h1
      cases h
      simp only [Bool.and_eq_true, decide_eq_true_eq] at h1
      omega
    · cases h
theorem runLen_all (p : UInt8 → Bool) : ∀ l : List UInt8, (l.take (runLen p l)).all p = true
  | [] => rfl
  | c :: l => by
    unfold runLen
    split
    · rename_i h; simp [h]; simpa using runLen_all p l
    · rfl
theorem testVal_valid {s : List UInt8} {f k p : Nat} {n : Nd} (hf : f < 14) (hk : k < 6) (h : testVal s f k p = some n) : Valid n ∧ dep n = 0 ∧ rankOf n = 2 := by
  have hkind : (lex s p).kind = (lexRest (s.drop (startOf s p))).1 := rfl
  have htxt : textOf s (lex s p) = (s.drop (startOf s p)).take (lexRest (s.drop (startOf s p))).2 := by
    unfold textOf lex
    simp only []
    congr 1
    omega
  unfold testVal at h
  rw [htxt, hkind] at h
  generalize s.drop (startOf s p) = l at h
  split at h
  · rename_i h1
    cases h
    refine ⟨?_, rfl, rfl⟩
    have hq := h1.2
    cases l with
    | nil => cases hq
    | cons c r =>
      replace hq : (lexCons c r).1 = .quoted := hq
      show _ ∧ (((c :: r).take (lexCons c r).2).drop 1).dropLast.length ≤ 64 ∧ (((c :: r).take (lexCons c r).2).drop 1).dropLast.all notQuote = true
      have key : runLen notQuote r < r.length ∧ runLen notQuote r ≤ 64 ∧ (lexCons c r).2 = runLen notQuote r + 2 := by
        unfold lexCons at hq ⊢
        split at hq
        · cases hq
        rename_i h2
        rw [if_neg h2]
        split at hq
        · split at hq <;> cases hq
        rename_i h3
        rw [if_neg h3]
        split at hq
        · rename_i h4
          rw [if_pos h4]
          split at hq
          · rename_i h5; rw [if_pos h5]; exact ⟨h5.1, h5.2, rfl⟩
          · cases hq
        · (repeat' split at hq) <;> cases hq
      obtain ⟨k1, k2, k3⟩ := key
      have e : (((c :: r).take (lexCons c r).2).drop 1).dropLast = r.take (runLen notQuote r) := by
        rw [k3, List.take_succ_cons, List.drop_succ_cons, List.drop_zero, List.dropLast_eq_take, List.take_take, List.length_take]
        congr 1
        omega
      rw [e]
      exact ⟨hk, by rw [List.length_take]; omega, runLen_all _ _⟩
  · rename_i h0
    split at h
    · rename_i h1
      cases h
      refine ⟨⟨by omega, hk, ?_⟩, rfl, rfl⟩
      have hq := h1.2
      cases l with
      | nil => cases hq
      | cons c r =>
        replace hq : (lexCons c r).1 = .digits := hq
        show I64 ((numOf ((c :: r).take (lexCons c r).2)).getD 0)
        have key : (numOf (c :: r.take (runLen isDigit r))).isSome = true ∧ (lexCons c r).2 = runLen isDigit r + 1 := by
          unfold lexCons at hq ⊢
          split at hq
          · cases hq
          rename_i h2
          rw [if_neg h2]
          split at hq
          · rename_i h3
            rw [if_pos h3]
            split at hq
            · rename_i h4; exact ⟨h4, rfl⟩
            · cases hq
          · (repeat' split at hq) <;> cases hq
        obtain ⟨k1, k2⟩ := key
        rw [k2, List.take_succ_cons]
        cases hn : numOf (c :: r.take (runLen isDigit r)) with
        | none => rw [hn] at k1; cases k1
        | some v => exact numOf_i64 hn
    · split at h
      · rename_i h1
        cases h
        obtain ⟨h1a, h1b, h1c⟩ := h1
        refine ⟨⟨by omega, hk, ?_⟩, rfl, rfl⟩
        unfold I64
        omega
      · cases h
theorem test_valid {s : List UInt8} : ∀ e p n q, (lang s).test e p = .ok n q → Valid n ∧ dep n = 0 ∧ rankOf n = 2 := by
  intro e p n q h
  replace h : testG (advG (isBad s) (nextOf s) (atOf s)) (atOf s) (isField s) (isAsk s) (fun p p1 p2 => testVal s (fieldOf s p) (askOf s p1) p2) e p = .ok n q := h
  unfold testG at h
  split at h
  · rename_i h1
    split at h
    · cases h
    · split at h
      · rename_i h2
        split at h
        · cases h
        · split at h
          · cases h
          · rename_i m hv
            split at h
            · cases h
            · cases h
              exact testVal_valid h1.2 h2.2 hv
      · cases h
  · cases h
end Go.Proofs.YtkbffgnhiohpcaaDoor.Filt
