/- Parts of this work, one behind the other: FiltD, FiltE, FiltN, Flds, FiltF, FiltK, Rfa, Rfp. -/
import Derived.Lib.ItoaNum
import Derived.Lib.ParseIntB
import Derived.Lib.Bytealg
import Derived.Test.YtkblkdnihppmnaaGreatDoorRows
import Derived.OpenShut
import Derived.Lib.TrimByte
import Derived.IntWalk
import Derived.Test.YtkblkdnihppmnaaGreatDoorPku0
/- Filters (layer 21): a filter's text is read again (the plain law of FilterBack). No program in sight. -/
namespace Go.Proofs.YtkblkdnihppmnaaGreatDoor.Filt
set_option linter.unusedSimpArgs false
set_option linter.unusedVariables false

/-! ## the texts of tests -/
def numT (f k : Nat) (n : Int) : List UInt8 := fieldNames.getD f [] ++ 32 :: (askNames.getD k [] ++ 32 :: (if f = 2 ∧ 1 ≤ n ∧ n ≤ 7 then statusNames.getD (n.toNat - 1) [] else Lib.itoa n))
def idtT (k : Nat) (s : List UInt8) : List UInt8 := [105, 100] ++ 32 :: (askNames.getD k [] ++ 32 :: (34 :: (s ++ [34])))
abbrev ftxt : Nd → List UInt8 := txt numT idtT
def I64 (n : Int) : Prop := -9223372036854775808 ≤ n ∧ n ≤ 9223372036854775807
/-- what is read, is so -/
def Valid : Nd → Prop
  | .num f k n => f < 13 ∧ k < 6 ∧ I64 n
  | .idt k s => k < 6 ∧ s.length ≤ 64 ∧ s.all notQuote = true
  | .not n => Valid n
  | .all a b => Valid a ∧ Valid b
  | .any a b => Valid a ∧ Valid b
/-- how deep a text is -/
def depW (r : Nat) (n : Nd) (d : Nat) : Nat := if rankOf n < r then d + 1 else d
def dep : Nd → Nat
  | .num _ _ _ => 0
  | .idt _ _ => 0
  | .not n => depW 2 n (dep n) + 1
  | .all a b => max (depW 1 a (dep a)) (depW 1 b (dep b))
  | .any a b => max (dep a) (dep b)
/-- behind what is read: what comes before it, if something does -/
inductive Mode where
  | start
  | andAfter (x : Nd)
  | orAfter (x : Nd)
def Mode.put : Mode → Nd → Nd
  | .start, n => n
  | .andAfter x, n => .all x n
  | .orAfter x, n => .any x n
/-- how a filter's text is read -/
def nrm : Mode → Nd → Nd
  | m, .num f k n => m.put (.num f k n)
  | m, .idt k s => m.put (.idt k s)
  | m, .not n => m.put (.not (nrm .start n))
  | .andAfter x, .all a b => nrm (.andAfter (nrm (.andAfter x) a)) b
  | m, .all a b => m.put (nrm (.andAfter (nrm .start a)) b)
  | .orAfter x, .any a b => nrm (.orAfter (nrm (.orAfter x) a)) b
  | m, .any a b => m.put (nrm (.orAfter (nrm .start a)) b)
section
variable (hn : Nat → Nat → Int → Bool) (hi : Nat → List UInt8 → Bool)
def hput (m : Mode) (b : Bool) : Bool := match m with | .start => b | .andAfter x => holdsOf hn hi x && b | .orAfter x => holdsOf hn hi x || b
theorem holds_nrm (n : Nd) : ∀ m, holdsOf hn hi (nrm m n) = hput hn hi m (holdsOf hn hi n) := by
  induction n with
  | num f k n => intro m; cases m <;> rfl
  | idt k s => intro m; cases m <;> rfl
  | not n ih => intro m; cases m <;> simp only [nrm, Mode.put, holdsOf, hput, ih]
  | all a b iha ihb => intro m; cases m <;> simp only [nrm, Mode.put, holdsOf, hput, iha, ihb, Bool.and_assoc]
  | any a b iha ihb => intro m; cases m <;> simp only [nrm, Mode.put, holdsOf, hput, iha, ihb, Bool.or_assoc]
end
theorem rank_nrm (n : Nd) : ∀ m, rankOf (nrm m n) = match m with | .start => rankOf n | .andAfter _ => 1 | .orAfter _ => 0 := by
  induction n with
  | num f k n => intro m; cases m <;> rfl
  | idt k s => intro m; cases m <;> rfl
  | not n ih => intro m; cases m <;> rfl
  | all a b iha ihb =>
    intro m
    cases m with
    | start => exact ihb (.andAfter _)
    | andAfter x => exact ihb (.andAfter _)
    | orAfter x => rfl
  | any a b iha ihb =>
    intro m
    cases m with
    | start => exact ihb (.orAfter _)
    | andAfter x => rfl
    | orAfter x => exact ihb (.orAfter _)
section
variable (tn : Nat → Nat → Int → List UInt8) (ti : Nat → List UInt8 → List UInt8)
def tput (m : Mode) (n : Nd) : List UInt8 := match m with
  | .start => txt tn ti n
  | .andAfter x => within 1 x (txt tn ti x) ++ sAnd ++ within 1 n (txt tn ti n)
  | .orAfter x => txt tn ti x ++ sOr ++ txt tn ti n
theorem within_rank {r : Nat} {a b : Nd} (h : rankOf a = rankOf b) (t : List UInt8) : within r a t = within r b t := by unfold within; rw [h]
theorem within_no {r : Nat} {a : Nd} (h : r ≤ rankOf a) (t : List UInt8) : within r a t = t := by unfold within; rw [if_neg (by omega)]
theorem txt_nrm (n : Nd) : ∀ m, txt tn ti (nrm m n) = tput tn ti m n := by
  induction n with
  | num f k n => intro m; cases m <;> rfl
  | idt k s => intro m; cases m <;> rfl
  | not n ih =>
    intro m
    have h1 : ∀ t, within 2 (nrm .start n) t = within 2 n t := within_rank (rank_nrm n .start)
    have e : txt tn ti (.not (nrm .start n)) = txt tn ti (.not n) := by simp only [txt, ih, tput, h1]
    cases m
    · exact e
    · rename_i x
      show within 1 x (txt tn ti x) ++ sAnd ++ within 1 (.not n) (txt tn ti (.not (nrm .start n))) = within 1 x (txt tn ti x) ++ sAnd ++ within 1 (.not n) (txt tn ti (.not n))
      rw [e]
    · rename_i x
      show txt tn ti x ++ sOr ++ txt tn ti (.not (nrm .start n)) = txt tn ti x ++ sOr ++ txt tn ti (.not n)
      rw [e]
  | all a b iha ihb =>
    intro m
    have h0 : ∀ t, within 1 (nrm .start a) t = within 1 a t := within_rank (rank_nrm a .start)
    have e : txt tn ti (nrm (.andAfter (nrm .start a)) b) = txt tn ti (.all a b) := by rw [ihb]; simp only [tput, iha, txt, h0]
    cases m with
    | start => exact e
    | andAfter x =>
      have h1 : ∀ t, within 1 (nrm (.andAfter x) a) t = t := within_no (by rw [rank_nrm]; exact Nat.le_refl 1)
      have h2 : ∀ t, within 1 (.all a b) t = t := within_no (Nat.le_refl 1)
      simp only [nrm, ihb, tput, iha, h1, h2, txt, List.append_assoc]
    | orAfter x =>
      show txt tn ti x ++ sOr ++ txt tn ti (nrm (.andAfter (nrm .start a)) b) = txt tn ti x ++ sOr ++ txt tn ti (.all a b)
      rw [e]
  | any a b iha ihb =>
    intro m
    have e : txt tn ti (nrm (.orAfter (nrm .start a)) b) = txt tn ti (.any a b) := by rw [ihb]; simp only [tput, iha, txt]
    cases m with
    | start => exact e
    | andAfter x =>
      have h1 : ∀ t, within 1 (nrm (.orAfter (nrm .start a)) b) t = within 1 (.any a b) t := within_rank (by rw [rank_nrm]; rfl)
      show within 1 x (txt tn ti x) ++ sAnd ++ within 1 (nrm (.orAfter (nrm .start a)) b) (txt tn ti (nrm (.orAfter (nrm .start a)) b)) = within 1 x (txt tn ti x) ++ sAnd ++ within 1 (.any a b) (txt tn ti (.any a b))
      rw [e, h1]
    | orAfter x => simp only [nrm, ihb, tput, iha, txt, List.append_assoc]
end

/-! ## what is read is valid, and not too deep -/
theorem depW2 (n : Nd) (d : Nat) : depW 2 n d ≤ d + 1 ∧ d ≤ depW 2 n d ∧ depW 1 n d ≤ depW 2 n d ∧ d ≤ depW 1 n d := by
  unfold depW
  cases n <;> simp [rankOf]
theorem reads_dep {L : Lang} (hT : ∀ e p n q, L.test e p = .ok n q → dep n = 0 ∧ rankOf n = 2) {e : Bool} {nt : NT} {d p : Nat} {r : Res} (h : Reads L e nt d p r) : ∀ {n q}, r = .ok n q →
    match nt with
    | .one => d ≤ 32 → d + depW 2 n (dep n) ≤ 32
    | .all => d ≤ 32 → d + depW 1 n (dep n) ≤ 32
    | .any => d ≤ 32 → d + dep n ≤ 32
    | .allMore x => d + depW 1 x (dep x) ≤ 32 → d + depW 1 n (dep n) ≤ 32
    | .anyMore x => d + dep x ≤ 32 → d + dep n ≤ 32 := by
  induction h with
  | test h1 h2 =>
    intro n q hr hd
    obtain ⟨h1, h2⟩ := hT _ _ _ _ hr
    unfold depW
    rw [h1, h2, if_neg (by omega)]
    omega
  | deep => intro n q hr; cases hr
  | notBad => intro n q hr; cases hr
  | notFail => intro n q hr; cases hr
  | openBad => intro n q hr; cases hr
  | openFail => intro n q hr; cases hr
  | openNot => intro n q hr; cases hr
  | openClose => intro n q hr; cases hr
  | allFail => intro n q hr; cases hr
  | allBad => intro n q hr; cases hr
  | allNo => intro n q hr; cases hr
  | anyFail => intro n q hr; cases hr
  | anyBad => intro n q hr; cases hr
  | anyNo => intro n q hr; cases hr
  | notOk hw hd ha hr ih =>
    intro n q hr hd2
    cases hr
    have := ih rfl (by omega)
    rename_i m
    have e : depW 2 (.not m) (dep (.not m)) = depW 2 m (dep m) + 1 := rfl
    rw [e]
    omega
  | @openOk d p p1 p2 p3 m h0 hw hd ha hr hc hx ih =>
    intro n q hr hd2
    cases hr
    have := ih rfl (by omega)
    have := (depW2 m (dep m)).1
    omega
  | @allOk d p p1 m r hr hm ih1 ih2 =>
    intro n q hr hd
    subst hr
    have := ih1 rfl hd
    have h2 := ih2 rfl
    have := (depW2 m (dep m)).2.2.1
    exact h2 (by omega)
  | allEnd hw => intro n q hr hd; cases hr; exact hd
  | @allMore d p p1 p2 m m2 r hw ha hr hm ih1 ih2 =>
    intro n q hr hd
    subst hr
    have h1 := ih1 rfl (by omega)
    have h2 := ih2 rfl
    have := (depW2 m2 (dep m2)).2.2.1
    refine h2 ?_
    have e : depW 1 (.all m m2) (dep (.all m m2)) = max (depW 1 m (dep m)) (depW 1 m2 (dep m2)) := rfl
    rw [e]
    omega
  | @anyOk d p p1 m r hr hm ih1 ih2 =>
    intro n q hr hd
    subst hr
    have := ih1 rfl hd
    have h2 := ih2 rfl
    have := (depW2 m (dep m)).2.2.2
    exact h2 (by omega)
  | anyEnd hw => intro n q hr hd; cases hr; exact hd
  | @anyMore d p p1 p2 m m2 r hw ha hr hm ih1 ih2 =>
    intro n q hr hd
    subst hr
    have h1 := ih1 rfl (by omega)
    have h2 := ih2 rfl
    have := (depW2 m2 (dep m2)).2.2.2
    refine h2 ?_
    have e : dep (.any m m2) = max (dep m) (dep m2) := rfl
    rw [e]
    omega
theorem reads_valid {L : Lang} (hT : ∀ e p n q, L.test e p = .ok n q → Valid n) {e : Bool} {nt : NT} {d p : Nat} {r : Res} (h : Reads L e nt d p r) : ∀ {n q}, r = .ok n q →
    match nt with
    | .allMore x => Valid x → Valid n
    | .anyMore x => Valid x → Valid n
    | _ => Valid n := by
  induction h with
  | test h1 h2 => intro n q hr; exact hT _ _ _ _ hr
  | deep => intro n q hr; cases hr
  | notBad => intro n q hr; cases hr
  | notFail => intro n q hr; cases hr
  | openBad => intro n q hr; cases hr
  | openFail => intro n q hr; cases hr
  | openNot => intro n q hr; cases hr
  | openClose => intro n q hr; cases hr
  | allFail => intro n q hr; cases hr
  | allBad => intro n q hr; cases hr
  | allNo => intro n q hr; cases hr
  | anyFail => intro n q hr; cases hr
  | anyBad => intro n q hr; cases hr
  | anyNo => intro n q hr; cases hr
  | notOk hw hd ha hr ih => intro n q hr; cases hr; have h := ih rfl; exact h
  | openOk h0 hw hd ha hr hc hx ih => intro n q hr; cases hr; exact ih rfl
  | allOk hr hm ih1 ih2 => intro n q hr; subst hr; exact ih2 rfl (ih1 rfl)
  | allEnd hw => intro n q hr; cases hr; exact id
  | allMore hw ha hr hm ih1 ih2 => intro n q hr hx; subst hr; exact ih2 rfl ⟨hx, ih1 rfl⟩
  | anyOk hr hm ih1 ih2 => intro n q hr; subst hr; exact ih2 rfl (ih1 rfl)
  | anyEnd hw => intro n q hr; cases hr; exact id
  | anyMore hw ha hr hm ih1 ih2 => intro n q hr hx; subst hr; exact ih2 rfl ⟨hx, ih1 rfl⟩
theorem numOf_i64 {l : List UInt8} {n : Int} (h : numOf l = some n) : I64 n := by
  unfold numOf at h
  unfold I64
  split at h
  · split at h
    · rename_i h1
      cases h
      simp only [Bool.and_eq_true, decide_eq_true_eq] at h1
      omega
    · cases h
  · split at h
    · rename_i h1
      cases h
      simp only [Bool.and_eq_true, decide_eq_true_eq] at h1
      omega
    · cases h
theorem runLen_all (p : UInt8 → Bool) : ∀ l : List UInt8, (l.take (runLen p l)).all p = true
  | [] => rfl
  | c :: l => by
    unfold runLen
    split
    · rename_i h; simp [h]; simpa using runLen_all p l
    · rfl
theorem testVal_valid {s : List UInt8} {f k p : Nat} {n : Nd} (hf : f < 14) (hk : k < 6) (h : testVal s f k p = some n) : Valid n ∧ dep n = 0 ∧ rankOf n = 2 := by
  have hkind : (lex s p).kind = (lexRest (s.drop (startOf s p))).1 := rfl
  have htxt : textOf s (lex s p) = (s.drop (startOf s p)).take (lexRest (s.drop (startOf s p))).2 := by
    unfold textOf lex
    simp only []
    congr 1
    omega
  unfold testVal at h
  rw [htxt, hkind] at h
  generalize s.drop (startOf s p) = l at h
  split at h
  · rename_i h1
    cases h
    refine ⟨?_, rfl, rfl⟩
    have hq := h1.2
    cases l with
    | nil => cases hq
    | cons c r =>
      replace hq : (lexCons c r).1 = .quoted := hq
      show _ ∧ (((c :: r).take (lexCons c r).2).drop 1).dropLast.length ≤ 64 ∧ (((c :: r).take (lexCons c r).2).drop 1).dropLast.all notQuote = true
      have key : runLen notQuote r < r.length ∧ runLen notQuote r ≤ 64 ∧ (lexCons c r).2 = runLen notQuote r + 2 := by
        unfold lexCons at hq ⊢
        split at hq
        · cases hq
        rename_i h2
        rw [if_neg h2]
        split at hq
        · split at hq <;> cases hq
        rename_i h3
        rw [if_neg h3]
        split at hq
        · rename_i h4
          rw [if_pos h4]
          split at hq
          · rename_i h5; rw [if_pos h5]; exact ⟨h5.1, h5.2, rfl⟩
          · cases hq
        · (repeat' split at hq) <;> cases hq
      obtain ⟨k1, k2, k3⟩ := key
      have e : (((c :: r).take (lexCons c r).2).drop 1).dropLast = r.take (runLen notQuote r) := by
        rw [k3, List.take_succ_cons, List.drop_succ_cons, List.drop_zero, List.dropLast_eq_take, List.take_take, List.length_take]
        congr 1
        omega
      rw [e]
      exact ⟨hk, by rw [List.length_take]; omega, runLen_all _ _⟩
  · rename_i h0
    split at h
    · rename_i h1
      cases h
      refine ⟨⟨by omega, hk, ?_⟩, rfl, rfl⟩
      have hq := h1.2
      cases l with
      | nil => cases hq
      | cons c r =>
        replace hq : (lexCons c r).1 = .digits := hq
        show I64 ((numOf ((c :: r).take (lexCons c r).2)).getD 0)
        have key : (numOf (c :: r.take (runLen isDigit r))).isSome = true ∧ (lexCons c r).2 = runLen isDigit r + 1 := by
          unfold lexCons at hq ⊢
          split at hq
          · cases hq
          rename_i h2
          rw [if_neg h2]
          split at hq
          · rename_i h3
            rw [if_pos h3]
            split at hq
            · rename_i h4; exact ⟨h4, rfl⟩
            · cases hq
          · (repeat' split at hq) <;> cases hq
        obtain ⟨k1, k2⟩ := key
        rw [k2, List.take_succ_cons]
        cases hn : numOf (c :: r.take (runLen isDigit r)) with
        | none => rw [hn] at k1; cases k1
        | some v => exact numOf_i64 hn
    · split at h
      · rename_i h1
        cases h
        obtain ⟨h1a, h1b, h1c⟩ := h1
        refine ⟨⟨by omega, hk, ?_⟩, rfl, rfl⟩
        unfold I64
        omega
      · cases h
theorem test_valid {s : List UInt8} : ∀ e p n q, (lang s).test e p = .ok n q → Valid n ∧ dep n = 0 ∧ rankOf n = 2 := by
  intro e p n q h
  replace h : testG (advG (isBad s) (nextOf s) (atOf s)) (atOf s) (isField s) (isAsk s) (fun p p1 p2 => testVal s (fieldOf s p) (askOf s p1) p2) e p = .ok n q := h
  unfold testG at h
  split at h
  · rename_i h1
    split at h
    · cases h
    · split at h
      · rename_i h2
        split at h
        · cases h
        · split at h
          · cases h
          · rename_i m hv
            split at h
            · cases h
            · cases h
              exact testVal_valid h1.2 h2.2 hv
      · cases h
  · cases h
end Go.Proofs.YtkblkdnihppmnaaGreatDoor.Filt
/- Filters (layer 21): a filter's text is read as that filter (the plain law of FilterBack, second part). No program in sight. -/
namespace Go.Proofs.YtkblkdnihppmnaaGreatDoor.Filt
set_option linter.unusedSimpArgs false
set_option linter.unusedVariables false

/-! ## tokens of what is printed -/
/-- nothing that goes on a word stands behind -/
def Follow (l : List UInt8) : Prop := l = [] ∨ ∃ r, l = 32 :: r ∨ l = 41 :: r
/-- a token is there -/
structure Tk (U : List UInt8) (p : Nat) (k : TK) (w : List UInt8) (q : Nat) : Prop where
  kind : (lex U p).kind = k
  text : textOf U (lex U p) = w
  next : nextOf U p = q
theorem tk_mk {U pre l : List UInt8} (hU : U = pre ++ l) {w : List UInt8} {k : TK} {n j : Nat} (hj : runLen isBlank l = j) (hl : lexRest (l.drop j) = (k, n)) (hw : (l.drop j).take n = w) : Tk U pre.length k w (pre.length + j + n) := by
  subst hj
  obtain ⟨h1, h2⟩ := lex_at hU
  rw [hl] at h1 h2
  exact ⟨by rw [h1], by rw [h2]; exact hw, by unfold nextOf; rw [h1]⟩
theorem field_lex {f : Nat} (hf : f < 14) (l : List UInt8) : lexRest (fieldNames.getD f [] ++ 32 :: l) = (.word, (fieldNames.getD f []).length) ∧ runLen isBlank (fieldNames.getD f [] ++ 32 :: l) = 0 ∧ fieldNames.idxOf (fieldNames.getD f []) = f := by
  match f, hf with
  | 0, _ => exact ⟨rfl, rfl, by decide⟩
  | 1, _ => exact ⟨rfl, rfl, by decide⟩
  | 2, _ => exact ⟨rfl, rfl, by decide⟩
  | 3, _ => exact ⟨rfl, rfl, by decide⟩
  | 4, _ => exact ⟨rfl, rfl, by decide⟩
  | 5, _ => exact ⟨rfl, rfl, by decide⟩
  | 6, _ => exact ⟨rfl, rfl, by decide⟩
  | 7, _ => exact ⟨rfl, rfl, by decide⟩
  | 8, _ => exact ⟨rfl, rfl, by decide⟩
  | 9, _ => exact ⟨rfl, rfl, by decide⟩
  | 10, _ => exact ⟨rfl, rfl, by decide⟩
  | 11, _ => exact ⟨rfl, rfl, by decide⟩
  | 12, _ => exact ⟨rfl, rfl, by decide⟩
  | 13, _ => exact ⟨rfl, rfl, by decide⟩
  | n + 14, h => omega
theorem ask_lex {k : Nat} (hk : k < 6) (l : List UInt8) : lexRest (askNames.getD k [] ++ 32 :: l) = (.mark, (askNames.getD k []).length) ∧ askNames.idxOf (askNames.getD k []) = k ∧ runLen isBlank (askNames.getD k [] ++ 32 :: l) = 0 := by
  match k, hk with
  | 0, _ => exact ⟨rfl, by decide, rfl⟩
  | 1, _ => exact ⟨rfl, by decide, rfl⟩
  | 2, _ => exact ⟨rfl, by decide, rfl⟩
  | 3, _ => exact ⟨rfl, by decide, rfl⟩
  | 4, _ => exact ⟨rfl, by decide, rfl⟩
  | 5, _ => exact ⟨rfl, by decide, rfl⟩
  | n + 6, h => omega
theorem status_lex {i : Nat} (hi : i < 7) {l : List UInt8} (hl : Follow l) : lexRest (statusNames.getD i [] ++ l) = (.word, (statusNames.getD i []).length) ∧ statusNames.idxOf (statusNames.getD i []) = i ∧ runLen isBlank (statusNames.getD i [] ++ l) = 0 := by
  rcases hl with rfl | ⟨r, rfl | rfl⟩ <;>
  · match i, hi with
    | 0, _ => exact ⟨rfl, by decide, rfl⟩
    | 1, _ => exact ⟨rfl, by decide, rfl⟩
    | 2, _ => exact ⟨rfl, by decide, rfl⟩
    | 3, _ => exact ⟨rfl, by decide, rfl⟩
    | 4, _ => exact ⟨rfl, by decide, rfl⟩
    | 5, _ => exact ⟨rfl, by decide, rfl⟩
    | 6, _ => exact ⟨rfl, by decide, rfl⟩
    | n + 7, h => omega
/-! ### numerals -/
theorem decVal_snoc (l : List UInt8) (c : UInt8) : decVal (l ++ [c]) = 10 * decVal l + (c.toNat - 48) := by unfold decVal; rw [List.foldl_append]; rfl
theorem dec_digits (u : Nat) : (Lib.decDigits u).all isDigit = true ∧ decVal (Lib.decDigits u) = u ∧ Lib.decDigits u ≠ [] ∧ (Lib.decDigits u = [48] ∨ (Lib.decDigits u).head? ≠ some 48) ∧ (0 < u → (Lib.decDigits u).head? ≠ some 48) := by
  induction u using Nat.strongRecOn with
  | _ u ih =>
    by_cases h : u < 10
    · rw [Lib.decDigits, dif_pos h]
      match u, h with
      | 0, _ => exact ⟨by decide, by decide, by decide, by decide, by decide⟩
      | 1, _ => exact ⟨by decide, by decide, by decide, by decide, by decide⟩
      | 2, _ => exact ⟨by decide, by decide, by decide, by decide, by decide⟩
      | 3, _ => exact ⟨by decide, by decide, by decide, by decide, by decide⟩
      | 4, _ => exact ⟨by decide, by decide, by decide, by decide, by decide⟩
      | 5, _ => exact ⟨by decide, by decide, by decide, by decide, by decide⟩
      | 6, _ => exact ⟨by decide, by decide, by decide, by decide, by decide⟩
      | 7, _ => exact ⟨by decide, by decide, by decide, by decide, by decide⟩
      | 8, _ => exact ⟨by decide, by decide, by decide, by decide, by decide⟩
      | 9, _ => exact ⟨by decide, by decide, by decide, by decide, by decide⟩
      | n + 10, h => omega
    · obtain ⟨h1, h2, h3, h4, h5⟩ := ih (u / 10) (by omega)
      rw [Lib.decDigits, dif_neg h]
      have hc : (UInt8.ofNat (48 + u % 10)).toNat = 48 + u % 10 := by simp only [UInt8.toNat_ofNat']; omega
      have hh : (Lib.decDigits (u / 10) ++ [UInt8.ofNat (48 + u % 10)]).head? = (Lib.decDigits (u / 10)).head? := by
        cases hd : Lib.decDigits (u / 10) with
        | nil => exact (h3 hd).elim
        | cons c r => rfl
      refine ⟨?_, ?_, by simp, .inr ?_, fun _ => ?_⟩
      · rw [List.all_append, h1]
        simp only [List.all_cons, List.all_nil, Bool.true_and, Bool.and_true, isDigit, hc, decide_eq_true_eq]
        omega
      · rw [decVal_snoc, h2, hc]; omega
      · rw [hh]; exact h5 (by omega)
      · rw [hh]; exact h5 (by omega)
theorem mag_dec {u : Nat} : magOk (Lib.decDigits u) = true := by
  obtain ⟨h1, h2, h3, h4, h5⟩ := dec_digits u
  unfold magOk
  rw [h1]
  rcases h4 with h4 | h4
  · rw [h4]; rfl
  · have e1 : (Lib.decDigits u).isEmpty = false := by cases h : Lib.decDigits u with | nil => exact (h3 h).elim | cons => rfl
    have e2 : ((Lib.decDigits u).head? != some 48) = true := by rw [bne_iff_ne]; exact h4
    rw [e1, e2]
    simp
theorem dec_ne45 (u : Nat) (r : List UInt8) : Lib.decDigits u ≠ 45 :: r := by
  intro h
  have := (dec_digits u).1
  rw [h] at this
  simp [isDigit] at this
theorem numOf_plain {l : List UInt8} (h : ∀ r, l ≠ 45 :: r) : numOf l = if magOk l && decide (decVal l ≤ 9223372036854775807) then some (decVal l : Int) else none := by
  unfold numOf
  split
  · exact (h _ rfl).elim
  · rfl
theorem num_itoa {n : Int} (h : I64 n) : numOf (Lib.itoa n) = some n := by
  unfold I64 at h
  unfold Lib.itoa
  split
  · rename_i hn
    have hv := (dec_digits n.natAbs).2.1
    show (if magOk (Lib.decDigits n.natAbs) && decide (0 < decVal (Lib.decDigits n.natAbs)) && decide (decVal (Lib.decDigits n.natAbs) ≤ 9223372036854775808) then some (-(decVal (Lib.decDigits n.natAbs) : Int)) else none) = some n
    rw [mag_dec, hv, if_pos (by simp; omega)]
    congr 1
    omega
  · rename_i hn
    have hv := (dec_digits n.toNat).2.1
    rw [numOf_plain (dec_ne45 _), mag_dec, hv, if_pos (by simp; omega)]
    congr 1
    omega
theorem runLen_full {p : UInt8 → Bool} {m : List UInt8} (hm : runLen p m = 0) : ∀ l : List UInt8, l.all p = true → runLen p (l ++ m) = l.length
  | [], _ => hm
  | c :: l, h => by
    rw [List.all_cons, Bool.and_eq_true] at h
    simp only [List.cons_append, runLen]
    rw [if_pos h.1, runLen_full hm l h.2]
    rfl
theorem itoa_form {n : Int} : ∃ c r, Lib.itoa n = c :: r ∧ r.all isDigit = true ∧ (isDigit c || c.toNat == 45) = true ∧ isSmall c = false ∧ isBlank c = false := by
  unfold Lib.itoa
  split
  · exact ⟨45, _, rfl, (dec_digits _).1, by decide, by decide, by decide⟩
  · obtain ⟨h1, -, h3, -, -⟩ := dec_digits n.toNat
    cases hd : Lib.decDigits n.toNat with
    | nil => exact (h3 hd).elim
    | cons c r =>
      rw [hd, List.all_cons, Bool.and_eq_true] at h1
      refine ⟨c, r, rfl, h1.2, by rw [h1.1]; rfl, ?_, ?_⟩
      · have := h1.1
        simp only [isDigit, isSmall, decide_eq_true_eq, decide_eq_false_iff_not] at this ⊢
        omega
      · have := h1.1
        simp only [isDigit, isBlank, decide_eq_true_eq, decide_eq_false_iff_not] at this ⊢
        omega
theorem itoa_lex {n : Int} (h : I64 n) {l : List UInt8} (hl : Follow l) : lexRest (Lib.itoa n ++ l) = (.digits, (Lib.itoa n).length) ∧ runLen isBlank (Lib.itoa n ++ l) = 0 := by
  obtain ⟨c, r, e, h1, h2, h3, h4⟩ := itoa_form (n := n)
  have hn := num_itoa h
  rw [e] at hn ⊢
  have hm : runLen isDigit l = 0 := by rcases hl with rfl | ⟨r, rfl | rfl⟩ <;> rfl
  have hr := runLen_full hm r h1
  constructor
  · show lexCons c (r ++ l) = _
    unfold lexCons
    rw [h3, h2, hr, List.take_left, hn]
    rfl
  · show (if isBlank c then _ else 0) = 0
    rw [h4]
    rfl
theorem quoted_lex {s l : List UInt8} (h1 : s.length ≤ 64) (h2 : s.all notQuote = true) : lexRest (34 :: (s ++ [34]) ++ l) = (.quoted, s.length + 2) := by
  have hr : runLen notQuote (s ++ 34 :: l) = s.length := runLen_full rfl s h2
  show lexCons 34 (s ++ [34] ++ l) = _
  rw [List.append_assoc]
  show lexCons 34 (s ++ 34 :: l) = _
  unfold lexCons
  rw [hr, if_neg (by decide), if_neg (by decide), if_pos (by decide), if_pos ⟨by simp, h1⟩]

/-! ## tests -/
theorem adv_tk {U : List UInt8} {p q : Nat} {k : TK} {w : List UInt8} (h : Tk U p k w q) : (lang U).adv false p = .ok q := by
  rw [adv_lazy]
  show Except.ok (nextOf U p) = _
  rw [h.next]
theorem test_tk {U : List UInt8} {p p1 p2 p3 f k : Nat} {w1 w2 w3 : List UInt8} {k3 : TK} {n : Nd} (h1 : Tk U p .word w1 p1) (hf : fieldNames.idxOf w1 = f) (hf' : f < 14) (h2 : Tk U p1 .mark w2 p2) (hk : askNames.idxOf w2 = k) (hk' : k < 6) (h3 : Tk U p2 k3 w3 p3) (hv : testVal U f k p2 = some n) :
    (lang U).test false p = .ok n p3 := by
  show testG (lang U).adv (atOf U) (isField U) (isAsk U) (fun p p1 p2 => testVal U (fieldOf U p) (askOf U p1) p2) false p = _
  have e1 : fieldOf U p = f := by unfold fieldOf; rw [h1.text, hf]
  have e2 : askOf U p1 = k := by unfold askOf; rw [h2.text, hk]
  unfold testG
  rw [if_pos (show isField U p from ⟨h1.kind, by rw [e1]; exact hf'⟩), adv_tk h1]
  simp only []
  rw [if_pos (show isAsk U p1 from ⟨h2.kind, by rw [e2]; exact hk'⟩), adv_tk h2]
  simp only [e1, e2, hv]
  rw [adv_tk h3]
theorem read_test {U : List UInt8} {pre post : List UInt8} {n : Nd} (hV : Valid n) (hr : rankOf n = 2) (hn : ∀ m, n ≠ .not m) (hU : U = pre ++ (ftxt n ++ post)) (hp : Follow post) (d : Nat) : Reads (lang U) false .one d pre.length (.ok n (pre.length + (ftxt n).length)) := by
  have key : ∀ (f k : Nat) (v : List UInt8) (k3 : TK), f < 14 → k < 6 → ftxt n = fieldNames.getD f [] ++ 32 :: (askNames.getD k [] ++ 32 :: v) → lexRest (v ++ post) = (k3, v.length) → runLen isBlank (v ++ post) = 0 →
      (∀ p2, Tk U p2 k3 v (pre.length + (ftxt n).length) → testVal U f k p2 = some n) → Reads (lang U) false .one d pre.length (.ok n (pre.length + (ftxt n).length)) := by
    intro f k v k3 hf hk he hv hb ht
    obtain ⟨a1, a2, a3⟩ := field_lex hf (askNames.getD k [] ++ 32 :: v ++ post)
    obtain ⟨b1, b2, b3⟩ := ask_lex hk (v ++ post)
    have t1 : Tk U pre.length .word (fieldNames.getD f []) (pre.length + 0 + (fieldNames.getD f []).length) := tk_mk (l := fieldNames.getD f [] ++ 32 :: (askNames.getD k [] ++ 32 :: v ++ post)) (by rw [hU, he]; simp) a2 a1 (by simp)
    have t2 : Tk U (pre ++ fieldNames.getD f []).length .mark (askNames.getD k []) ((pre ++ fieldNames.getD f []).length + 1 + (askNames.getD k []).length) := tk_mk (l := 32 :: (askNames.getD k [] ++ 32 :: (v ++ post))) (by rw [hU, he]; simp) (show runLen isBlank _ + 1 = 1 by rw [b3]) b1 (by simp)
    have t3 : Tk U (pre ++ fieldNames.getD f [] ++ 32 :: askNames.getD k []).length k3 v ((pre ++ fieldNames.getD f [] ++ 32 :: askNames.getD k []).length + 1 + v.length) := tk_mk (l := 32 :: (v ++ post)) (by rw [hU, he]; simp) (show runLen isBlank _ + 1 = 1 by rw [hb]) hv (by simp)
    have l1 : pre.length + 0 + (fieldNames.getD f []).length = (pre ++ fieldNames.getD f []).length := by rw [List.length_append]; omega
    have l2 : (pre ++ fieldNames.getD f []).length + 1 + (askNames.getD k []).length = (pre ++ fieldNames.getD f [] ++ 32 :: askNames.getD k []).length := by simp only [List.length_append, List.length_cons]; omega
    have l3 : (pre ++ fieldNames.getD f [] ++ 32 :: askNames.getD k []).length + 1 + v.length = pre.length + (ftxt n).length := by rw [he]; simp only [List.length_append, List.length_cons]; omega
    rw [l1] at t1
    rw [l2] at t2
    rw [l3] at t3
    have hnot : fieldNames.getD f [] ≠ wNot ∧ fieldNames.getD f [] ≠ wOpen := by
      have : ∀ i, i < 14 → fieldNames.getD i [] ≠ wNot ∧ fieldNames.getD i [] ≠ wOpen := by decide
      exact this f hf
    have hres := test_tk t1 a3 hf t2 b2 hk t3 (ht _ t3)
    rw [← hres]
    exact .test (fun h => hnot.1 (t1.text.symm.trans h.2)) (fun h => hnot.2 (t1.text.symm.trans h.2))
  cases n with
  | num f k v =>
    obtain ⟨hf, hk, hv⟩ := hV
    by_cases hs : f = 2 ∧ 1 ≤ v ∧ v ≤ 7
    · obtain ⟨c1, c2, c3⟩ := status_lex (i := v.toNat - 1) (by omega) hp
      refine key f k (statusNames.getD (v.toNat - 1) []) .word (by omega) hk (by show numT f k v = _; unfold numT; rw [if_pos hs]) c1 c3 fun p2 t => ?_
      unfold testVal
      rw [t.kind, t.text, c2, if_neg (by simp), if_neg (by simp), if_pos ⟨hs.1, rfl, by omega⟩]
      congr 2
      omega
    · obtain ⟨c1, c2⟩ := itoa_lex hv hp
      refine key f k (Lib.itoa v) .digits (by omega) hk (by show numT f k v = _; unfold numT; rw [if_neg hs]) c1 c2 fun p2 t => ?_
      unfold testVal
      rw [t.kind, t.text, num_itoa hv, if_neg (by simp), if_pos ⟨by omega, rfl⟩]
      rfl
  | idt k s =>
    obtain ⟨hk, hl, hq⟩ := hV
    have c1 := quoted_lex (l := post) hl hq
    refine key 13 k (34 :: (s ++ [34])) .quoted (by omega) hk rfl (by rw [c1]; simp) rfl fun p2 t => ?_
    unfold testVal
    rw [t.kind, t.text, if_pos ⟨rfl, rfl⟩]
    simp
  | not m => exact (hn m rfl).elim
  | all a b => simp [rankOf] at hr
  | any a b => simp [rankOf] at hr

/-! ## a blank ahead -/
theorem lex_blank {U pre l : List UInt8} (hU : U = pre ++ 32 :: l) : lex U pre.length = lex U (pre.length + 1) := by
  have h1 : startOf U pre.length = startOf U (pre.length + 1) := by
    unfold startOf
    have e1 : U.drop pre.length = 32 :: l := by rw [hU, List.drop_left]
    have e2 : U.drop (pre.length + 1) = l := by rw [← List.drop_drop, e1]; rfl
    rw [e1, e2]
    show pre.length + (runLen isBlank l + 1) = _
    omega
  unfold lex
  rw [h1]
theorem reads_one_at {U : List UInt8} {p q : Nat} (h : lex U p = lex U q) {d : Nat} {r : Res} (hr : Reads (lang U) false .one d q r) : Reads (lang U) false .one d p r := by
  have hw : ∀ w, isWord U p w ↔ isWord U q w := fun w => by unfold isWord; rw [h]
  have ha : (lang U).adv false p = (lang U).adv false q := by rw [adv_lazy, adv_lazy]; show Except.ok (lex U p).next = Except.ok (lex U q).next; rw [h]
  have ht : (lang U).test false p = (lang U).test false q := by
    show testG (lang U).adv (atOf U) (isField U) (isAsk U) (fun p p1 p2 => testVal U (fieldOf U p) (askOf U p1) p2) false p = testG (lang U).adv (atOf U) (isField U) (isAsk U) (fun p p1 p2 => testVal U (fieldOf U p) (askOf U p1) p2) false q
    have e1 : fieldOf U p = fieldOf U q := by unfold fieldOf; rw [h]
    have e2 : atOf U p = atOf U q := by unfold atOf; rw [h]
    have e3 : isField U p ↔ isField U q := by unfold isField; rw [h, e1]
    unfold testG
    simp only [ha, e1, e2]
    by_cases hf : isField U q
    · rw [if_pos hf, if_pos (e3.2 hf)]
    · rw [if_neg hf, if_neg (fun x => hf (e3.1 x))]
  have hat : (lang U).at_ p = (lang U).at_ q := by show (lex U p).at_ = (lex U q).at_; rw [h]
  cases hr with
  | test h1 h2 => rw [← ht]; exact .test (fun x => h1 ((hw _).1 x)) (fun x => h2 ((hw _).1 x))
  | deep h hd => rw [← hat]; exact .deep (h.imp (hw _).2 (hw _).2) hd
  | notBad h hd hx => exact .notBad ((hw _).2 h) hd (ha.trans hx)
  | notOk h hd hx hr => exact .notOk ((hw _).2 h) hd (ha.trans hx) hr
  | notFail h hd hx hr => exact .notFail ((hw _).2 h) hd (ha.trans hx) hr
  | openBad h0 h hd hx => exact .openBad (fun x => h0 ((hw _).1 x)) ((hw _).2 h) hd (ha.trans hx)
  | openFail h0 h hd hx hr => exact .openFail (fun x => h0 ((hw _).1 x)) ((hw _).2 h) hd (ha.trans hx) hr
  | openNot h0 h hd hx hr hc => exact .openNot (fun x => h0 ((hw _).1 x)) ((hw _).2 h) hd (ha.trans hx) hr hc
  | openClose h0 h hd hx hr hc hy => exact .openClose (fun x => h0 ((hw _).1 x)) ((hw _).2 h) hd (ha.trans hx) hr hc hy
  | openOk h0 h hd hx hr hc hy => exact .openOk (fun x => h0 ((hw _).1 x)) ((hw _).2 h) hd (ha.trans hx) hr hc hy
theorem reads_all_at {U : List UInt8} {p q : Nat} (h : lex U p = lex U q) {d : Nat} {r : Res} (hr : Reads (lang U) false .all d q r) : Reads (lang U) false .all d p r := by
  cases hr with
  | allFail hr => exact .allFail (reads_one_at h hr)
  | allOk hr hm => exact .allOk (reads_one_at h hr) hm

/-! ## the whole -/
/-- behind an any nothing stands but the end, a bracket, or another or -/
def FollowAny (l : List UInt8) : Prop := l = [] ∨ ∃ r, l = 41 :: r ∨ l = sOr ++ r
theorem FollowAny.follow {l : List UInt8} (h : FollowAny l) : Follow l := by
  rcases h with rfl | ⟨r, rfl | rfl⟩
  · exact .inl rfl
  · exact .inr ⟨r, .inr rfl⟩
  · exact .inr ⟨_, .inl rfl⟩
theorem follow_and (r : List UInt8) : Follow (sAnd ++ r) := .inr ⟨_, .inl rfl⟩
theorem no_and {U pre l : List UInt8} (hU : U = pre ++ l) (hl : FollowAny l) : ¬ isWord U pre.length wAnd := by
  rcases hl with rfl | ⟨r, rfl | rfl⟩
  · rw [List.append_nil] at hU; subst hU; exact ended_word
  · exact (stands_mk hU (w := wClose) (k := .mark) (n := 1) (j := 0) rfl rfl (.inr rfl) rfl).not (by decide)
  · exact (stands_mk hU (w := wOr) (k := .word) (n := 2) (j := 1) rfl rfl (.inl rfl) rfl).not (by decide)
def T1 (n : Nd) : List UInt8 := within 1 n (ftxt n)
def T2 (n : Nd) : List UInt8 := within 2 n (ftxt n)
structure Prints (n : Nd) : Prop where
  one : ∀ {U pre post : List UInt8} {d : Nat}, U = pre ++ (T2 n ++ post) → Follow post → d + depW 2 n (dep n) ≤ 32 → Reads (lang U) false .one d pre.length (.ok (nrm .start n) (pre.length + (T2 n).length))
  all : ∀ {U pre post : List UInt8} {d : Nat} {r : Res}, U = pre ++ (T1 n ++ post) → Follow post → d + depW 1 n (dep n) ≤ 32 → Reads (lang U) false (.allMore (nrm .start n)) d (pre.length + (T1 n).length) r → Reads (lang U) false .all d pre.length r
  more : ∀ {U pre post : List UInt8} {d : Nat} {x : Nd} {r : Res}, U = pre ++ (sAnd ++ (T1 n ++ post)) → Follow post → d + depW 1 n (dep n) ≤ 32 → Reads (lang U) false (.allMore (nrm (.andAfter x) n)) d (pre.length + 5 + (T1 n).length) r → Reads (lang U) false (.allMore x) d pre.length r
  any : ∀ {U pre post : List UInt8} {d : Nat} {r : Res}, U = pre ++ (ftxt n ++ post) → FollowAny post → d + dep n ≤ 32 → Reads (lang U) false (.anyMore (nrm .start n)) d (pre.length + (ftxt n).length) r → Reads (lang U) false .any d pre.length r
  orMore : ∀ {U pre post : List UInt8} {d : Nat} {x : Nd} {r : Res}, U = pre ++ (sOr ++ (ftxt n ++ post)) → FollowAny post → d + dep n ≤ 32 → Reads (lang U) false (.anyMore (nrm (.orAfter x) n)) d (pre.length + 4 + (ftxt n).length) r → Reads (lang U) false (.anyMore x) d pre.length r
/-- behind an and: the blank, then a one -/
theorem and_one {U pre l : List UInt8} (hU : U = pre ++ (sAnd ++ l)) {d : Nat} {x m : Nd} {q : Nat} {r : Res} (h : Reads (lang U) false .one d (pre.length + 5) (.ok m q)) (hm : Reads (lang U) false (.allMore (.all x m)) d q r) : Reads (lang U) false (.allMore x) d pre.length r := by
  have hs : Stands U pre.length wAnd (pre.length + 1 + 3) := stands_mk hU (w := wAnd) (k := .word) (n := 3) (j := 1) rfl rfl (.inl rfl) rfl
  have hb := lex_blank (U := U) (pre := pre ++ [32, 97, 110, 100]) (l := l) (by rw [hU]; simp [sAnd])
  have e : (pre ++ [32, 97, 110, 100] : List UInt8).length = pre.length + 4 := by simp
  rw [e] at hb
  refine .allMore hs.word (show (lang U).adv false pre.length = .ok (pre.length + 4) from ?_) (reads_one_at hb h) hm
  rw [adv_lazy]
  exact congrArg Except.ok hs.next
theorem or_all {U pre l : List UInt8} (hU : U = pre ++ (sOr ++ l)) {d : Nat} {x m : Nd} {q : Nat} {r : Res} (h : Reads (lang U) false .all d (pre.length + 4) (.ok m q)) (hm : Reads (lang U) false (.anyMore (.any x m)) d q r) : Reads (lang U) false (.anyMore x) d pre.length r := by
  have hs : Stands U pre.length wOr (pre.length + 1 + 2) := stands_mk hU (w := wOr) (k := .word) (n := 2) (j := 1) rfl rfl (.inl rfl) rfl
  have hb := lex_blank (U := U) (pre := pre ++ [32, 111, 114]) (l := l) (by rw [hU]; simp [sOr])
  have e : (pre ++ [32, 111, 114] : List UInt8).length = pre.length + 3 := by simp
  rw [e] at hb
  refine .anyMore hs.word (show (lang U).adv false pre.length = .ok (pre.length + 3) from ?_) (reads_all_at hb h) hm
  rw [adv_lazy]
  exact congrArg Except.ok hs.next
/-- what is a one, is an all and an any -/
theorem prints_of_all {n : Nd} (hr : rankOf n ≠ 0) (hp : ∀ x, nrm (.orAfter x) n = .any x (nrm .start n)) (one : ∀ {U pre post : List UInt8} {d : Nat}, U = pre ++ (T2 n ++ post) → Follow post → d + depW 2 n (dep n) ≤ 32 → Reads (lang U) false .one d pre.length (.ok (nrm .start n) (pre.length + (T2 n).length)))
    (all : ∀ {U pre post : List UInt8} {d : Nat} {r : Res}, U = pre ++ (T1 n ++ post) → Follow post → d + depW 1 n (dep n) ≤ 32 → Reads (lang U) false (.allMore (nrm .start n)) d (pre.length + (T1 n).length) r → Reads (lang U) false .all d pre.length r)
    (more : ∀ {U pre post : List UInt8} {d : Nat} {x : Nd} {r : Res}, U = pre ++ (sAnd ++ (T1 n ++ post)) → Follow post → d + depW 1 n (dep n) ≤ 32 → Reads (lang U) false (.allMore (nrm (.andAfter x) n)) d (pre.length + 5 + (T1 n).length) r → Reads (lang U) false (.allMore x) d pre.length r) : Prints n := by
  have e1 : T1 n = ftxt n := within_no (by omega) _
  have e2 : depW 1 n (dep n) = dep n := if_neg (by omega)
  have ends : ∀ {U pre post : List UInt8} {d : Nat}, U = pre ++ (ftxt n ++ post) → FollowAny post → d + dep n ≤ 32 → Reads (lang U) false .all d pre.length (.ok (nrm .start n) (pre.length + (ftxt n).length)) := by
    intro U pre post d hU hp hd
    have hna : ¬ isWord U (pre ++ ftxt n).length wAnd := no_and (l := post) (by rw [hU]; simp) hp
    rw [List.length_append] at hna
    exact all (by rw [e1]; exact hU) hp.follow (by rw [e2]; exact hd) (by rw [e1]; exact .allEnd hna)
  refine ⟨one, all, more, fun {U pre post d r} hU hp hd hm => .anyOk (ends hU hp hd) hm, fun {U pre post d x r} hU hp' hd hm => ?_⟩
  have h := ends (pre := pre ++ sOr) (U := U) (by rw [hU]; simp) hp' hd
  have e : (pre ++ sOr).length = pre.length + 4 := by rw [List.length_append]; rfl
  rw [e] at h
  rw [hp] at hm
  exact or_all hU h hm
theorem prints_of_one {n : Nd} (hr : rankOf n = 2) (hp : ∀ m : Mode, nrm m n = m.put (nrm .start n)) (one : ∀ {U pre post : List UInt8} {d : Nat}, U = pre ++ (T2 n ++ post) → Follow post → d + depW 2 n (dep n) ≤ 32 → Reads (lang U) false .one d pre.length (.ok (nrm .start n) (pre.length + (T2 n).length))) : Prints n := by
  have e1 : T1 n = T2 n := by unfold T1 T2; rw [within_no (by omega), within_no (by omega)]
  have e2 : depW 1 n (dep n) = depW 2 n (dep n) := by unfold depW; rw [if_neg (by omega), if_neg (by omega)]
  refine prints_of_all (by omega) (fun x => hp (.orAfter x)) one ?_ ?_
  · intro U pre post d r hU hF hd hm
    rw [e1] at hU hm
    rw [e2] at hd
    exact .allOk (one hU hF hd) hm
  · intro U pre post d x r hU hF hd hm
    rw [e1] at hU hm
    rw [e2] at hd
    have h := one (pre := pre ++ sAnd) (U := U) (d := d) (by rw [hU]; simp) hF hd
    have e : (pre ++ sAnd).length = pre.length + 5 := by rw [List.length_append]; rfl
    rw [e] at h
    rw [hp] at hm
    exact and_one hU h hm
/-- in brackets -/
theorem one_brk {n : Nd} (hr : rankOf n < 2) (any : ∀ {U pre post : List UInt8} {d : Nat} {r : Res}, U = pre ++ (ftxt n ++ post) → FollowAny post → d + dep n ≤ 32 → Reads (lang U) false (.anyMore (nrm .start n)) d (pre.length + (ftxt n).length) r → Reads (lang U) false .any d pre.length r)
    {U pre post : List UInt8} {d : Nat} (hU : U = pre ++ (T2 n ++ post)) (hd : d + depW 2 n (dep n) ≤ 32) : Reads (lang U) false .one d pre.length (.ok (nrm .start n) (pre.length + (T2 n).length)) := by
  have e1 : T2 n = 40 :: (ftxt n ++ [41]) := if_pos hr
  have e2 : depW 2 n (dep n) = dep n + 1 := if_pos hr
  rw [e1] at hU ⊢
  rw [e2] at hd
  have o1 : Stands U pre.length wOpen (pre.length + 0 + 1) := stands_mk (l := 40 :: (ftxt n ++ [41]) ++ post) hU (w := wOpen) (k := .mark) (n := 1) (j := 0) rfl rfl (.inr rfl) rfl
  have c1 : Stands U (pre ++ 40 :: ftxt n).length wClose ((pre ++ 40 :: ftxt n).length + 0 + 1) := stands_mk (l := 41 :: post) (by rw [hU]; simp) (w := wClose) (k := .mark) (n := 1) (j := 0) rfl rfl (.inr rfl) rfl
  have hna : ¬ isWord U (pre ++ 40 :: ftxt n).length wOr := c1.not (by decide)
  have el : (pre ++ 40 :: ftxt n).length = pre.length + 1 + (ftxt n).length := by simp; omega
  rw [el] at c1 hna
  have hin := any (U := U) (pre := pre ++ [40]) (post := 41 :: post) (d := d + 1) (by rw [hU]; simp) (.inr ⟨_, .inl rfl⟩) (by omega) (r := .ok (nrm .start n) (pre.length + 1 + (ftxt n).length)) (by
    rw [show (pre ++ [40] : List UInt8).length = pre.length + 1 by simp]; exact .anyEnd hna)
  rw [show (pre ++ [40] : List UInt8).length = pre.length + 1 by simp] at hin
  have ef : pre.length + 1 + (ftxt n).length + 0 + 1 = pre.length + (40 :: (ftxt n ++ [41])).length := by simp; omega
  rw [ef] at c1
  refine .openOk (p1 := pre.length + 1) (p2 := pre.length + 1 + (ftxt n).length) (o1.not (by decide)) o1.word (by omega) ?_ hin c1.word ?_
  · rw [adv_lazy]; exact congrArg Except.ok o1.next
  · rw [adv_lazy]; exact congrArg Except.ok c1.next
theorem prints (n : Nd) : Valid n → Prints n := by
  induction n with
  | num f k v =>
    intro hV
    refine prints_of_one rfl (fun m => by cases m <;> rfl) ?_
    intro U pre post d hU hF hd
    exact read_test hV rfl (fun m h => by cases h) hU hF d
  | idt k s =>
    intro hV
    refine prints_of_one rfl (fun m => by cases m <;> rfl) ?_
    intro U pre post d hU hF hd
    exact read_test hV rfl (fun m h => by cases h) hU hF d
  | not n ih =>
    intro hV
    have P := ih hV
    refine prints_of_one rfl (fun m => by cases m <;> rfl) ?_
    intro U pre post d hU hF hd
    have e1 : T2 (.not n) = sNot ++ T2 n := rfl
    have e2 : depW 2 (.not n) (dep (.not n)) = depW 2 n (dep n) + 1 := rfl
    rw [e1] at hU ⊢
    rw [e2] at hd
    have hs : Stands U pre.length wNot (pre.length + 0 + 3) := stands_mk (l := sNot ++ T2 n ++ post) hU (w := wNot) (k := .word) (n := 3) (j := 0) rfl rfl (.inl rfl) rfl
    have hb := lex_blank (U := U) (pre := pre ++ [110, 111, 116]) (l := T2 n ++ post) (by rw [hU]; simp [sNot])
    have e : (pre ++ [110, 111, 116] : List UInt8).length = pre.length + 3 := by simp
    rw [e] at hb
    have h := P.one (U := U) (pre := pre ++ sNot) (post := post) (d := d + 1) (by rw [hU]; simp) hF (by omega)
    have e' : (pre ++ sNot).length = pre.length + 4 := by rw [List.length_append]; rfl
    rw [e'] at h
    have el : pre.length + (sNot ++ T2 n).length = pre.length + 4 + (T2 n).length := by rw [List.length_append, show sNot.length = 4 from rfl]; omega
    rw [el]
    refine .notOk (p1 := pre.length + 3) hs.word (by omega) ?_ (reads_one_at hb h)
    rw [adv_lazy]; exact congrArg Except.ok hs.next
  | all a b iha ihb =>
    intro hV
    have A := iha hV.1
    have B := ihb hV.2
    have e1 : ftxt (.all a b) = T1 a ++ sAnd ++ T1 b := rfl
    have e1' : T1 (.all a b) = T1 a ++ sAnd ++ T1 b := rfl
    have ed : depW 1 (.all a b) (dep (.all a b)) = max (depW 1 a (dep a)) (depW 1 b (dep b)) := rfl
    have all : ∀ {U pre post : List UInt8} {d : Nat} {r : Res}, U = pre ++ (T1 (.all a b) ++ post) → Follow post → d + depW 1 (.all a b) (dep (.all a b)) ≤ 32 → Reads (lang U) false (.allMore (nrm .start (.all a b))) d (pre.length + (T1 (.all a b)).length) r → Reads (lang U) false .all d pre.length r := by
      intro U pre post d r hU hF hd hm
      rw [ed] at hd
      rw [e1'] at hU hm
      refine A.all (post := sAnd ++ (T1 b ++ post)) (by rw [hU]; simp) (follow_and _) (by omega) ?_
      have h := B.more (U := U) (pre := pre ++ T1 a) (post := post) (d := d) (x := nrm .start a) (r := r) (by rw [hU]; simp) hF (by omega)
      rw [List.length_append] at h
      refine h ?_
      have el : pre.length + (T1 a ++ sAnd ++ T1 b).length = pre.length + (T1 a).length + 5 + (T1 b).length := by rw [List.length_append, List.length_append, show sAnd.length = 5 from rfl]; omega
      rw [el] at hm
      exact hm
    have anyP : ∀ {U pre post : List UInt8} {d : Nat} {r : Res}, U = pre ++ (ftxt (.all a b) ++ post) → FollowAny post → d + dep (.all a b) ≤ 32 → Reads (lang U) false (.anyMore (nrm .start (.all a b))) d (pre.length + (ftxt (.all a b)).length) r → Reads (lang U) false .any d pre.length r := by
      intro U pre post d r hU hp hd hm
      have hna : ¬ isWord U (pre ++ ftxt (.all a b)).length wAnd := no_and (l := post) (by rw [hU]; simp) hp
      rw [List.length_append] at hna
      exact .anyOk (all hU hp.follow hd (.allEnd hna)) hm
    refine prints_of_all (by simp [rankOf]) (fun x => rfl) (fun {U pre post d} hU hF hd => one_brk (by simp [rankOf]) anyP hU hd) all ?_
    intro U pre post d x r hU hF hd hm
    rw [ed] at hd
    rw [e1'] at hU hm
    refine A.more (post := sAnd ++ (T1 b ++ post)) (by rw [hU]; simp) (follow_and _) (by omega) ?_
    have h := B.more (U := U) (pre := pre ++ sAnd ++ T1 a) (post := post) (d := d) (x := nrm (.andAfter x) a) (r := r) (by rw [hU]; simp) hF (by omega)
    rw [List.length_append, List.length_append, show sAnd.length = 5 from rfl] at h
    refine h ?_
    have el : pre.length + 5 + (T1 a ++ sAnd ++ T1 b).length = pre.length + 5 + (T1 a).length + 5 + (T1 b).length := by rw [List.length_append, List.length_append, show sAnd.length = 5 from rfl]; omega
    rw [el] at hm
    exact hm
  | any a b iha ihb =>
    intro hV
    have A := iha hV.1
    have B := ihb hV.2
    have e1 : ftxt (.any a b) = ftxt a ++ sOr ++ ftxt b := rfl
    have ed : dep (.any a b) = max (dep a) (dep b) := rfl
    have anyP : ∀ {U pre post : List UInt8} {d : Nat} {r : Res}, U = pre ++ (ftxt (.any a b) ++ post) → FollowAny post → d + dep (.any a b) ≤ 32 → Reads (lang U) false (.anyMore (nrm .start (.any a b))) d (pre.length + (ftxt (.any a b)).length) r → Reads (lang U) false .any d pre.length r := by
      intro U pre post d r hU hp hd hm
      rw [ed] at hd
      rw [e1] at hU hm
      refine A.any (post := sOr ++ (ftxt b ++ post)) (by rw [hU]; simp) (.inr ⟨_, .inr rfl⟩) (by omega) ?_
      have h := B.orMore (U := U) (pre := pre ++ ftxt a) (post := post) (d := d) (x := nrm .start a) (r := r) (by rw [hU]; simp) hp (by omega)
      rw [List.length_append] at h
      refine h ?_
      have el : pre.length + (ftxt a ++ sOr ++ ftxt b).length = pre.length + (ftxt a).length + 4 + (ftxt b).length := by rw [List.length_append, List.length_append, show sOr.length = 4 from rfl]; omega
      rw [el] at hm
      exact hm
    have orP : ∀ {U pre post : List UInt8} {d : Nat} {x : Nd} {r : Res}, U = pre ++ (sOr ++ (ftxt (.any a b) ++ post)) → FollowAny post → d + dep (.any a b) ≤ 32 → Reads (lang U) false (.anyMore (nrm (.orAfter x) (.any a b))) d (pre.length + 4 + (ftxt (.any a b)).length) r → Reads (lang U) false (.anyMore x) d pre.length r := by
      intro U pre post d x r hU hp hd hm
      rw [ed] at hd
      rw [e1] at hU hm
      refine A.orMore (post := sOr ++ (ftxt b ++ post)) (by rw [hU]; simp) (.inr ⟨_, .inr rfl⟩) (by omega) ?_
      have h := B.orMore (U := U) (pre := pre ++ sOr ++ ftxt a) (post := post) (d := d) (x := nrm (.orAfter x) a) (r := r) (by rw [hU]; simp) hp (by omega)
      rw [List.length_append, List.length_append, show sOr.length = 4 from rfl] at h
      refine h ?_
      have el : pre.length + 4 + (ftxt a ++ sOr ++ ftxt b).length = pre.length + 4 + (ftxt a).length + 4 + (ftxt b).length := by rw [List.length_append, List.length_append, show sOr.length = 4 from rfl]; omega
      rw [el] at hm
      exact hm
    have t12 : T1 (.any a b) = T2 (.any a b) := rfl
    have d12 : depW 1 (.any a b) (dep (.any a b)) = depW 2 (.any a b) (dep (.any a b)) := rfl
    have one : ∀ {U pre post : List UInt8} {d : Nat}, U = pre ++ (T2 (.any a b) ++ post) → Follow post → d + depW 2 (.any a b) (dep (.any a b)) ≤ 32 → Reads (lang U) false .one d pre.length (.ok (nrm .start (.any a b)) (pre.length + (T2 (.any a b)).length)) := fun {U pre post d} hU hF hd => one_brk (by simp [rankOf]) anyP hU hd
    refine ⟨one, ?_, ?_, anyP, orP⟩
    · intro U pre post d r hU hF hd hm
      rw [t12] at hU hm
      rw [d12] at hd
      exact .allOk (one hU hF hd) hm
    · intro U pre post d x r hU hF hd hm
      rw [t12] at hU hm
      rw [d12] at hd
      have h := one (pre := pre ++ sAnd) (U := U) (d := d) (by rw [hU]; simp) hF hd
      have e : (pre ++ sAnd).length = pre.length + 5 := by rw [List.length_append]; rfl
      rw [e] at h
      exact and_one hU h hm
/-- a filter's text, if it isn't too long, is read as one that holds of the same and has that text -/
theorem text_back {n : Nd} (hV : Valid n) (hd : dep n ≤ 32) (hl : (ftxt n).length ≤ 512) : ParseR (ftxt n) (.ok (some (nrm .start n))) := by
  have P := prints n hV
  have hne : (lex (ftxt n) 0).kind ≠ .ended := by
    have key : ∀ m : Nd, Valid m → ∃ c r, ftxt m = c :: r ∧ isBlank c = false := by
      intro m
      induction m with
      | num f k v =>
        intro h
        have : ∀ i, i < 14 → ∃ c r, fieldNames.getD i [] = c :: r ∧ isBlank c = false := by
          intro i hi
          have h2 : ∀ i, i < 14 → (fieldNames.getD i []).head?.any (fun c => !isBlank c) = true := by decide
          have := h2 i hi
          cases hx : fieldNames.getD i [] with
          | nil => rw [hx] at this; cases this
          | cons c r => rw [hx] at this; exact ⟨c, r, rfl, by simpa using this⟩
        obtain ⟨c, r, h1, h2⟩ := this f (by have := h.1; omega)
        exact ⟨c, _, by show numT f k v = _; unfold numT; rw [h1]; rfl, h2⟩
      | idt k s => intro _; exact ⟨105, _, rfl, by decide⟩
      | not m => intro _; exact ⟨110, _, rfl, by decide⟩
      | all a b iha _ =>
        intro h
        obtain ⟨c, r, h1, h2⟩ := iha h.1
        show ∃ c r, within 1 a (ftxt a) ++ sAnd ++ within 1 b (ftxt b) = c :: r ∧ _
        unfold within
        split
        · exact ⟨40, _, rfl, by decide⟩
        · rw [h1]; exact ⟨c, _, rfl, h2⟩
      | any a b iha _ =>
        intro h
        obtain ⟨c, r, h1, h2⟩ := iha h.1
        exact ⟨c, r ++ (sOr ++ ftxt b), by show ftxt a ++ sOr ++ ftxt b = _; rw [h1]; simp, h2⟩
    obtain ⟨c, r, h1, h2⟩ := key n hV
    intro he
    have h3 : (ftxt n).drop (startOf (ftxt n) 0) = [] := lexRest_end.1 he
    rw [h1] at h3
    have h4 : startOf (c :: r) 0 = 0 := by
      unfold startOf
      show 0 + (if isBlank c then _ else 0) = 0
      rw [h2]; rfl
    rw [h4] at h3
    cases h3
  have hend : (lex (ftxt n) (ftxt n).length).kind = .ended := by
    have := (lex_at (U := ftxt n) (pre := ftxt n) (l := []) (by simp)).1
    rw [this]
    rfl
  refine .ok hl hne (p := (ftxt n).length) ?_ hend
  have h := P.any (U := ftxt n) (pre := []) (post := []) (d := 0) (r := .ok (nrm .start n) (ftxt n).length) (by simp) (.inl rfl) (by omega)
  refine h ?_
  rw [show ([] : List UInt8).length + (ftxt n).length = (ftxt n).length by simp]
  exact .anyEnd ended_word
/-- what the program reads is valid, and not too deep -/
theorem parse_valid {s : List UInt8} {n : Nd} (h : ParseP s (.ok (some n))) : Valid n ∧ dep n ≤ 32 := by
  cases h with
  | ok h hb he hr hp =>
    have h1 := reads_valid (fun e p n q h => (test_valid e p n q h).1) hr rfl
    have h2 := reads_dep (fun e p n q h => (test_valid e p n q h).2) hr rfl
    exact ⟨h1, by have := h2 (by omega); omega⟩
end Go.Proofs.YtkblkdnihppmnaaGreatDoor.Filt
/- Filters (layer 21): what the library reads as a number is what the chapter does. No program in sight. -/
namespace Go.Proofs.YtkblkdnihppmnaaGreatDoor.Filt
set_option linter.unusedSimpArgs false
set_option linter.unusedVariables false

/-- the program's test of a numeral -/
def numP (l : List UInt8) : Option Int := match Lib.parseIntB 64 l with
  | .ok v => if Lib.itoa v = l then some v else none
  | _ => none
theorem fold_mono : ∀ (l : List UInt8) (n : Nat), n ≤ l.foldl (fun n c => 10 * n + (c.toNat - 48)) n
  | [], n => Nat.le_refl _
  | c :: l, n => Nat.le_trans (show n ≤ 10 * n + (c.toNat - 48) by omega) (fold_mono l _)
theorem parse_all : ∀ (l : List UInt8) (acc M : Nat), l.all isDigit = true → M ≤ 18446744073709551615 → acc ≤ M → (l.foldl (fun n c => 10 * n + (c.toNat - 48)) acc ≤ M → Lib.parseUintM M acc l = .ok (l.foldl (fun n c => 10 * n + (c.toNat - 48)) acc)) ∧ (M < l.foldl (fun n c => 10 * n + (c.toNat - 48)) acc → Lib.parseUintM M acc l = .range)
  | [], acc, M, _, _, ha => ⟨fun _ => rfl, fun h => by simp at h; omega⟩
  | c :: r, acc, M, hd, hM, ha => by
    rw [List.all_cons, Bool.and_eq_true] at hd
    have hc : 48 ≤ c.toNat ∧ c.toNat ≤ 57 := of_decide_eq_true hd.1
    simp only [List.foldl_cons]
    have hm := fold_mono r (10 * acc + (c.toNat - 48))
    unfold Lib.parseUintM
    rw [if_pos hc]
    have e : acc * 10 + (c.toNat - 48) = 10 * acc + (c.toNat - 48) := by omega
    rw [e]
    by_cases h1 : 1844674407370955162 ≤ acc
    · rw [if_pos h1]
      exact ⟨fun h => by omega, fun _ => rfl⟩
    · rw [if_neg h1]
      by_cases h2 : M < 10 * acc + (c.toNat - 48)
      · rw [if_pos h2]
        exact ⟨fun h => by omega, fun _ => rfl⟩
      · rw [if_neg h2]
        exact parse_all r _ M hd.2 hM (by omega)
theorem parse_none : ∀ (l : List UInt8) (acc M : Nat), l.all isDigit = false → ∀ v, Lib.parseUintM M acc l ≠ .ok v
  | [], _, _, h, _ => by simp at h
  | c :: r, acc, M, h, v => by
    unfold Lib.parseUintM
    split
    · rename_i hc
      split
      · simp
      · split
        · simp
        · refine parse_none r _ M ?_ v
          rw [List.all_cons] at h
          have : isDigit c = true := decide_eq_true hc
          rw [this] at h
          simpa using h
    · simp
theorem decDigits_first : ∀ (l : List UInt8), l.all isDigit = true → l ≠ [] → (l.length = 1 ∨ l.head? ≠ some 48) → Lib.decDigits (decVal l) = l := by
  intro l
  induction hn : l.length using Nat.strongRecOn generalizing l with
  | _ n ih =>
    intro hd hne hz
    rcases List.eq_nil_or_concat l with rfl | ⟨r, c, rfl⟩
    · exact (hne rfl).elim
    rw [List.concat_eq_append] at *
    rw [List.all_append, Bool.and_eq_true] at hd
    have hc : 48 ≤ c.toNat ∧ c.toNat ≤ 57 := by
      have : isDigit c = true := by simpa using hd.2
      exact of_decide_eq_true this
    rw [decVal_snoc]
    cases r with
    | nil =>
      show Lib.decDigits (10 * 0 + (c.toNat - 48)) = [c]
      rw [Lib.decDigits, dif_pos (by omega)]
      congr 1
      apply UInt8.toNat_inj.1
      simp only [UInt8.toNat_ofNat']
      omega
    | cons b r =>
      have hb : b.toNat ≠ 48 := by
        rcases hz with h | h
        · simp only [List.length_append, List.length_cons, List.length_nil] at hn; omega
        · intro e
          apply h
          have : b = 48 := UInt8.toNat_inj.1 e
          rw [this]; rfl
      have hh : (b :: r).head? ≠ some 48 := fun e => hb (by
        have : b = 48 := by simpa using e
        rw [this]; rfl)
      have hdv := ih (b :: r).length (by rw [← hn]; simp) (b :: r) rfl hd.1 (by simp) (.inr hh)
      have hb2 : 48 ≤ b.toNat ∧ b.toNat ≤ 57 := by
        have := hd.1
        rw [List.all_cons, Bool.and_eq_true] at this
        exact of_decide_eq_true this.1
      have hpos : 0 < decVal (b :: r) := by
        have := fold_mono r (10 * 0 + (b.toNat - 48))
        show 0 < r.foldl _ (10 * 0 + (b.toNat - 48))
        omega
      rw [Lib.decDigits, dif_neg (by omega)]
      have e1 : (10 * decVal (b :: r) + (c.toNat - 48)) / 10 = decVal (b :: r) := by omega
      have e2 : (10 * decVal (b :: r) + (c.toNat - 48)) % 10 = c.toNat - 48 := by omega
      rw [e1, e2, hdv]
      congr 2
      apply UInt8.toNat_inj.1
      simp only [UInt8.toNat_ofNat']
      omega
theorem digits_ne {l : List UInt8} (h : l.all isDigit = true) : ∀ c r, l = c :: r → ¬ (c.toNat = 43 ∨ c.toNat = 45) := by
  rintro c r rfl
  rw [List.all_cons, Bool.and_eq_true] at h
  have : 48 ≤ c.toNat ∧ c.toNat ≤ 57 := of_decide_eq_true h.1
  omega
/-- what the program reads as a number is what the chapter does -/
theorem num_same (l : List UInt8) : numP l = numOf l := by
  have key : ∀ (v : Int), Lib.parseIntB 64 l = .ok v → Lib.itoa v = l → numOf l = some v := by
    intro v h1 h2
    have hv : I64 v := by
      unfold Lib.parseIntB at h1
      unfold I64
      cases l with
      | nil => cases h1
      | cons c r =>
        dsimp only at h1
        split at h1
        · cases h1
        · cases h1
        · split at h1
          · cases h1
          · split at h1
            · cases h1
            · cases h1
              split <;> omega
    rw [← h2]
    exact num_itoa hv
  have back : ∀ (v : Int), numOf l = some v → Lib.parseIntB 64 l = .ok v ∧ Lib.itoa v = l := by
    intro v h
    unfold numOf at h
    split at h
    · rename_i r
      split at h
      · rename_i hc
        cases h
        simp only [Bool.and_eq_true, decide_eq_true_eq] at hc
        obtain ⟨⟨hm, h0⟩, h1⟩ := hc
        unfold magOk at hm
        simp only [Bool.and_eq_true] at hm
        obtain ⟨⟨m1, m2⟩, m3⟩ := hm
        have hne : r ≠ [] := by rintro rfl; simp at m1
        have hz : r.length = 1 ∨ r.head? ≠ some 48 := by
          rw [Bool.or_eq_true] at m3
          rcases m3 with m3 | m3
          · exact .inl (by simpa using m3)
          · exact .inr (by simpa using m3)
        have hp := (parse_all r 0 18446744073709551615 m2 (by omega) (by omega)).1
        have hdv : decVal r = r.foldl (fun n c => 10 * n + (c.toNat - 48)) 0 := rfl
        rw [← hdv] at hp
        have hp := hp (by omega)
        have hu : Lib.parseUintB 64 r = .ok (decVal r) := by
          unfold Lib.parseUintB
          rw [if_neg hne]
          exact hp
        constructor
        · unfold Lib.parseIntB
          dsimp only
          rw [if_pos (by decide), hu]
          dsimp only
          rw [if_neg (fun h => h.1 (by decide)), if_neg (fun h => by have := h.2; omega), if_pos (by decide)]
        · unfold Lib.itoa
          rw [if_pos (by omega)]
          have : (-(decVal r : Int)).natAbs = decVal r := by omega
          rw [this, decDigits_first r m2 hne hz]
      · cases h
    · rename_i hl
      split at h
      · rename_i hc
        cases h
        simp only [Bool.and_eq_true, decide_eq_true_eq] at hc
        obtain ⟨hm, h1⟩ := hc
        unfold magOk at hm
        simp only [Bool.and_eq_true] at hm
        obtain ⟨⟨m1, m2⟩, m3⟩ := hm
        have hne : l ≠ [] := by rintro rfl; simp at m1
        have hz : l.length = 1 ∨ l.head? ≠ some 48 := by
          rw [Bool.or_eq_true] at m3
          rcases m3 with m3 | m3
          · exact .inl (by simpa using m3)
          · exact .inr (by simpa using m3)
        have hp := (parse_all l 0 18446744073709551615 m2 (by omega) (by omega)).1
        have hdv : decVal l = l.foldl (fun n c => 10 * n + (c.toNat - 48)) 0 := rfl
        rw [← hdv] at hp
        have hp := hp (by omega)
        have hu : Lib.parseUintB 64 l = .ok (decVal l) := by
          unfold Lib.parseUintB
          rw [if_neg hne]
          exact hp
        have hfirst := digits_ne m2
        have hdd := decDigits_first l m2 hne hz
        constructor
        · cases l with
          | nil => exact (hne rfl).elim
          | cons c r =>
            have hc := hfirst c r rfl
            have hc45 : ¬ c.toNat = 45 := fun h => hc (.inr h)
            unfold Lib.parseIntB
            dsimp only
            rw [if_neg hc, hu]
            dsimp only
            rw [if_neg (by omega), if_neg (by simp [hc45]), if_neg hc45]
        · unfold Lib.itoa
          rw [if_neg (by omega)]
          show Lib.decDigits ((decVal l : Int)).toNat = l
          rw [Int.toNat_natCast, hdd]
      · cases h
  cases hn : numOf l with
  | some v =>
    obtain ⟨h1, h2⟩ := back v hn
    unfold numP
    rw [h1]
    exact if_pos h2
  | none =>
    unfold numP
    cases hp : Lib.parseIntB 64 l with
    | ok v =>
      refine if_neg fun h => ?_
      have := key v hp h
      rw [hn] at this
      cases this
    | _ => rfl
/-- where a quote stands -/
theorem index_quote : ∀ l : List UInt8, Lib.indexByte l 34 = if runLen notQuote l < l.length then (runLen notQuote l : Int) else -1
  | [] => rfl
  | c :: l => by
    unfold Lib.indexByte runLen
    by_cases h : c = 34
    · have e : notQuote c = false := by rw [h]; decide
      rw [e, h]
      simp
    · have e : notQuote c = true := decide_eq_true (fun x => h (UInt8.toNat_inj.1 x))
      have hb : (c == 34) = false := by simpa using h
      rw [e, hb, index_quote l]
      simp only [if_true, Bool.false_eq_true, if_false, List.length_cons]
      by_cases h2 : runLen notQuote l < l.length
      · have h3 : ((runLen notQuote l : Int) == -1) = false := by rw [beq_eq_false_iff_ne]; omega
        simp only [if_pos h2, h3, if_pos (show runLen notQuote l + 1 < l.length + 1 by omega)]
        simp
      · simp only [if_neg h2, if_neg (show ¬ runLen notQuote l + 1 < l.length + 1 by omega)]
        rfl
end Go.Proofs.YtkblkdnihppmnaaGreatDoor.Filt
/- The fields of a struct that came in as an argument. -/
namespace Go.Proofs.YtkblkdnihppmnaaGreatDoor
set_option linter.unusedSimpArgs false
set_option linter.unusedVariables false
open Go.RowKit Go.Deep

section
variable {H : Type} {enc : TypeId × Value → H} {P : Program} {w : World} {base : Nat} {spare : Nat → Bool} {held : Bool} {t : TypeId} {fuel : Nat} {cs : List Value} {x : DataW H × List MemPlace}
/-- a field of a struct that came in -/
theorem fld {fs : Array Field} (ht : P.underlying t = some (.struct fs)) (h : DataW.trod enc P w base spare held fuel t cs = some x) (i off k : Nat) (hi : decide (i < fs.size) = true) (ho : (fs.getD i default).offset = off) (hk : P.cellsOf (fs.getD i default).type = k) :
    ∃ y n, DataW.trod enc P w base spare held n (fs.getD i default).type ((cs.drop off).take k) = some y ∧ Rows.uptoBulk y.1 ≤ Rows.uptoBulk x.1 := by
  obtain ⟨xs, n, _, rfl, hl, hlen, hf⟩ := DataW.trod_struct ht h
  have hi' : i < fs.size := by simpa using hi
  have he : fs.getD i default = fs[i] := by simp [Array.getD, hi']
  have h1 := hf i fs[i] (Array.getElem?_eq_getElem hi')
  rw [he] at ho hk ⊢
  subst ho hk
  have hx : i < xs.length := by omega
  refine ⟨xs[i], n, by rw [h1, List.getElem?_eq_getElem hx], ?_⟩
  have := bulk_part (d := xs[i].1) (l := xs.map (·.1)) (List.mem_map.2 ⟨xs[i], List.getElem_mem hx, rfl⟩)
  simp only [Rows.uptoBulk]
  omega
theorem fld_len {fs : Array Field} (ht : P.underlying t = some (.struct fs)) (h : DataW.trod enc P w base spare held fuel t cs = some x) : cs.length = P.cellsOf t := by
  obtain ⟨xs, n, _, rfl, hl, hlen, hf⟩ := DataW.trod_struct ht h
  exact hl
theorem fld_one_of {a v : Value} {l : List Value} {off : Nat} (h : (l.drop off).take 1 = [v]) (ha : l[off]? = some a) : a = v := by
  have h1 : l[off]? = some v := by
    have := congrArg (fun x => x[0]?) h
    simpa using this
  rw [ha] at h1
  exact Option.some.inj h1
theorem fld_int {fs : Array Field} (ht : P.underlying t = some (.struct fs)) (h : DataW.trod enc P w base spare held fuel t cs = some x) (i off : Nat) (hi : decide (i < fs.size) = true) (ho : (fs.getD i default).offset = off) (hk : P.cellsOf (fs.getD i default).type = 1) (hu : P.underlying (fs.getD i default).type = some (.int .i64)) {a : Value} (ha : cs[off]? = some a) : ∃ n : Int, a = .int .i64 n := by
  obtain ⟨y, n, h1, -⟩ := fld ht h i off 1 hi ho hk
  obtain ⟨v, h2, -⟩ := read_i64 hu h1
  exact ⟨v, fld_one_of h2 ha⟩
theorem fld_str {fs : Array Field} (ht : P.underlying t = some (.struct fs)) (h : DataW.trod enc P w base spare held fuel t cs = some x) (i off : Nat) (hi : decide (i < fs.size) = true) (ho : (fs.getD i default).offset = off) (hk : P.cellsOf (fs.getD i default).type = 1) (hu : P.underlying (fs.getD i default).type = some .string) {a : Value} (ha : cs[off]? = some a) : ∃ l : List UInt8, a = str l := by
  obtain ⟨y, n, h1, -⟩ := fld ht h i off 1 hi ho hk
  obtain ⟨v, h2, -⟩ := read_str hu h1
  exact ⟨v, fld_one_of h2 ha⟩
theorem fld_ints {fs : Array Field} {n : Nat} {e : TypeId} (ht : P.underlying t = some (.struct fs)) (h : DataW.trod enc P w base spare held fuel t cs = some x) (i off : Nat) (hi : decide (i < fs.size) = true) (ho : (fs.getD i default).offset = off) (hk : P.cellsOf (fs.getD i default).type = n) (hu : P.underlying (fs.getD i default).type = some (.array n e)) (he : P.underlying e = some (.int .i64)) (hc : P.cellsOf e = 1) (j : Nat) (hj : j < n) {a : Value} (ha : cs[off + j]? = some a) : ∃ v : Int, a = .int .i64 v := by
  obtain ⟨y, k, h1, -⟩ := fld ht h i off n hi ho hk
  obtain ⟨xs, m, -, -, -, hlen, hf⟩ := DataW.trod_array hu h1
  have h2 := hf j hj
  rw [hc, Nat.mul_one, List.getElem?_eq_getElem (by omega)] at h2
  obtain ⟨v, h3, -⟩ := read_i64 he h2
  refine ⟨v, fld_one_of (off := j) h3 ?_⟩
  rw [List.getElem?_take_of_lt hj, List.getElem?_drop]
  exact ha
end
end Go.Proofs.YtkblkdnihppmnaaGreatDoor
/- Filters (layer 21): what is read goes on; a test, case by case. No program in sight. -/
namespace Go.Proofs.YtkblkdnihppmnaaGreatDoor.Filt
set_option linter.unusedSimpArgs false
set_option linter.unusedVariables false

section
variable {s : List UInt8}
theorem lexCons_pos {c : UInt8} {r : List UInt8} (h : (lexCons c r).1 ≠ .bad) : 0 < (lexCons c r).2 := by
  unfold lexCons at h ⊢
  split
  · simp
  · split
    · simp
    · split
      · split
        · simp
        · rename_i h1 h2 h3 h4
          exact (h (by rw [if_neg h1, if_neg h2, if_pos h3, if_neg h4])).elim
      · split
        · simp
        · split
          · split
            · simp
            · split <;> simp
          · simp
theorem at_ge (p : Nat) : p ≤ (lex s p).at_ := Nat.le_add_right _ _
theorem at_le_next (p : Nat) : (lex s p).at_ ≤ (lex s p).next := Nat.le_add_right _ _
theorem next_ge (p : Nat) : p ≤ (lex s p).next := Nat.le_trans (at_ge p) (at_le_next p)
theorem next_gt {p : Nat} (hb : (lex s p).kind ≠ .bad) (he : (lex s p).kind ≠ .ended) : p < (lex s p).next := by
  have h1 : startOf s p < (lex s p).next := by
    unfold lex at hb he ⊢
    dsimp only at hb he ⊢
    cases hd : s.drop (startOf s p) with
    | nil => rw [hd] at he; exact (he rfl).elim
    | cons c r =>
      rw [hd] at hb
      have := lexCons_pos (c := c) (r := r) hb
      show startOf s p < startOf s p + (lexCons c r).2
      omega
  exact Nat.lt_of_le_of_lt (at_ge (s := s) p) h1
theorem word_gt {p : Nat} {w : List UInt8} (h : isWord s p w) : p < (lex s p).next := by
  rcases h.1 with h | h
  · exact next_gt (by rw [h]; simp) (by rw [h]; simp)
  · exact next_gt (by rw [h]; simp) (by rw [h]; simp)
theorem adv_next {p q : Nat} (h : (lang s).adv true p = .ok q) : q = (lex s p).next := (adv_ok h).1
theorem test_gt {p q : Nat} {n : Nd} (h : (lang s).test true p = .ok n q) : p < q := by
  have h : testG (advG (isBad s) (nextOf s) (atOf s)) (atOf s) (isField s) (isAsk s) (fun p p1 p2 => testVal s (fieldOf s p) (askOf s p1) p2) true p = .ok n q := h
  unfold testG at h
  have hadv : ∀ {a b : Nat}, advG (isBad s) (nextOf s) (atOf s) true a = .ok b → b = (lex s a).next := fun h => adv_next h
  split at h
  · rename_i h1
    split at h
    · cases h
    · rename_i p1 e1
      split at h
      · split at h
        · cases h
        · rename_i p2 e2
          split at h
          · cases h
          · split at h
            · cases h
            · rename_i p3 e3
              cases h
              have a1 := hadv e1
              have a2 := hadv e2
              have a3 := hadv e3
              have b1 := next_gt (s := s) (p := p) (by rw [h1.1]; simp) (by rw [h1.1]; simp)
              have b2 := next_ge (s := s) p1
              have b3 := next_ge (s := s) p2
              omega
      · cases h
  · cases h
def NT.step : NT → Nat
  | .one | .all | .any => 1
  | _ => 0
theorem reads_gt {nt : NT} {d p : Nat} {r : Res} (h : Reads (lang s) true nt d p r) : ∀ {n q}, r = .ok n q → p + nt.step ≤ q := by
  induction h with
  | test h1 h2 => intro n q e; exact test_gt e
  | notOk h hd ha hr ih =>
    intro n q e
    cases e
    have := ih rfl
    have b := word_gt h
    have a := adv_next ha
    simp only [NT.step] at *
    omega
  | openOk h0 h hd ha hr hc hb ih =>
    intro n q e
    cases e
    have := ih rfl
    have b := word_gt h
    have a := adv_next ha
    have a3 := adv_next hb
    have b3 := word_gt hc
    simp only [NT.step] at *
    omega
  | allOk h hr ih1 ih2 =>
    intro n q e
    have i1 := ih1 rfl
    have i2 := ih2 e
    simp only [NT.step] at *
    omega
  | allEnd h => intro n q e; cases e; exact Nat.le_refl _
  | allMore h ha hr hm ih1 ih2 =>
    intro n q e
    have i1 := ih1 rfl
    have i2 := ih2 e
    have b := word_gt h
    have a := adv_next ha
    simp only [NT.step] at *
    omega
  | anyOk h hr ih1 ih2 =>
    intro n q e
    have i1 := ih1 rfl
    have i2 := ih2 e
    simp only [NT.step] at *
    omega
  | anyEnd h => intro n q e; cases e; exact Nat.le_refl _
  | anyMore h ha hr hm ih1 ih2 =>
    intro n q e
    have i1 := ih1 rfl
    have i2 := ih2 e
    have b := word_gt h
    have a := adv_next ha
    simp only [NT.step] at *
    omega
  | _ => intro n q e; cases e
end
end Go.Proofs.YtkblkdnihppmnaaGreatDoor.Filt
/- Filters (layer 21): a test's tokens. No program in sight. -/
namespace Go.Proofs.YtkblkdnihppmnaaGreatDoor.Filt
set_option linter.unusedSimpArgs false
set_option linter.unusedVariables false

section
variable {s : List UInt8}
theorem test_of {p : Nat} : (lang s).test true p = testG (lang s).adv (atOf s) (isField s) (isAsk s) (fun p p1 p2 => testVal s (fieldOf s p) (askOf s p1) p2) true p := rfl
theorem test_noField {p : Nat} (h : ¬ isField s p) : (lang s).test true p = .fail (lex s p).at_ := by
  rw [test_of]; unfold testG; rw [if_neg h]; rfl
theorem test_bad1 {p a : Nat} (h : isField s p) (ha : (lang s).adv true p = .error a) : (lang s).test true p = .fail a := by
  rw [test_of]; unfold testG; rw [if_pos h, ha]
theorem test_noAsk {p p1 : Nat} (h : isField s p) (ha : (lang s).adv true p = .ok p1) (hk : ¬ isAsk s p1) : (lang s).test true p = .fail (lex s p1).at_ := by
  rw [test_of]; unfold testG; rw [if_pos h, ha]; simp only []; rw [if_neg hk]; rfl
theorem test_bad2 {p p1 a : Nat} (h : isField s p) (ha : (lang s).adv true p = .ok p1) (hk : isAsk s p1) (hb : (lang s).adv true p1 = .error a) : (lang s).test true p = .fail a := by
  rw [test_of]; unfold testG; rw [if_pos h, ha]; simp only []; rw [if_pos hk, hb]
theorem test_none {p p1 p2 : Nat} (h : isField s p) (ha : (lang s).adv true p = .ok p1) (hk : isAsk s p1) (hb : (lang s).adv true p1 = .ok p2) (hv : testVal s (fieldOf s p) (askOf s p1) p2 = none) : (lang s).test true p = .fail (lex s p2).at_ := by
  rw [test_of]; unfold testG; rw [if_pos h, ha]; simp only []; rw [if_pos hk, hb]; simp only [hv]; rfl
theorem test_bad3 {p p1 p2 a : Nat} {n : Nd} (h : isField s p) (ha : (lang s).adv true p = .ok p1) (hk : isAsk s p1) (hb : (lang s).adv true p1 = .ok p2) (hv : testVal s (fieldOf s p) (askOf s p1) p2 = some n) (hc : (lang s).adv true p2 = .error a) : (lang s).test true p = .fail a := by
  rw [test_of]; unfold testG; rw [if_pos h, ha]; simp only []; rw [if_pos hk, hb]; simp only [hv, hc]
theorem test_ok {p p1 p2 p3 : Nat} {n : Nd} (h : isField s p) (ha : (lang s).adv true p = .ok p1) (hk : isAsk s p1) (hb : (lang s).adv true p1 = .ok p2) (hv : testVal s (fieldOf s p) (askOf s p1) p2 = some n) (hc : (lang s).adv true p2 = .ok p3) : (lang s).test true p = .ok n p3 := by
  rw [test_of]; unfold testG; rw [if_pos h, ha]; simp only []; rw [if_pos hk, hb]; simp only [hv, hc]
end
/-! ## words' places -/
abbrev fieldNums : List (List UInt8) := fieldNames.take 13
abbrev idW : List UInt8 := [105, 100]
abbrev statusW : List UInt8 := [115, 116, 97, 116, 117, 115]
theorem idx_lt {x : List UInt8} : ∀ {l : List (List UInt8)} , l.idxOf x < l.length → l.getD (l.idxOf x) [] = x
  | [], h => by simp at h
  | y :: l, h => by
    rw [List.idxOf_cons] at h ⊢
    cases hy : (y == x) with
    | true => rw [hy] at h; simp only [cond_true, List.getD_cons_zero]; simpa using hy
    | false =>
      rw [hy] at h
      simp only [cond_false, List.length_cons, List.getD_cons_succ] at h ⊢
      exact idx_lt (by omega)
theorem idx_take {x : List UInt8} : ∀ (l : List (List UInt8)) (k : Nat), (l.take k).idxOf x < (l.take k).length → l.idxOf x = (l.take k).idxOf x
  | [], k, h => by simp at h
  | y :: l, 0, h => by simp at h
  | y :: l, k + 1, h => by
    rw [List.take_succ_cons] at h ⊢
    rw [List.idxOf_cons] at h
    rw [List.idxOf_cons, List.idxOf_cons]
    cases hy : (y == x) with
    | true => rfl
    | false =>
      rw [hy] at h
      simp only [cond_false, List.length_cons] at h ⊢
      rw [idx_take l k (by omega)]
theorem idx_drop {x : List UInt8} : ∀ (l : List (List UInt8)) (k : Nat), ¬ (l.take k).idxOf x < (l.take k).length → k ≤ l.length → l.idxOf x = k + (l.drop k).idxOf x
  | l, 0, _, _ => by simp
  | [], k + 1, _, hk => by simp at hk
  | y :: l, k + 1, h, hk => by
    rw [List.take_succ_cons, List.idxOf_cons] at h
    rw [List.idxOf_cons, List.drop_succ_cons]
    cases hy : (y == x) with
    | true => rw [hy] at h; simp at h
    | false =>
      rw [hy] at h
      simp only [cond_false, List.length_cons] at h ⊢
      rw [idx_drop l k (by omega) (by simpa using hk)]
      omega
theorem field_num {x : List UInt8} (h : fieldNums.idxOf x < 13) : fieldNames.idxOf x = fieldNums.idxOf x ∧ x ≠ idW := by
  have h1 : fieldNames.idxOf x = fieldNums.idxOf x := idx_take fieldNames 13 h
  refine ⟨h1, ?_⟩
  rintro rfl
  have : fieldNums.idxOf idW = 13 := by decide
  omega
theorem field_no {x : List UInt8} (h : ¬ fieldNums.idxOf x < 13) (hx : x ≠ idW) : ¬ fieldNames.idxOf x < 14 := by
  have h1 : fieldNames.idxOf x = 13 + (fieldNames.drop 13).idxOf x := idx_drop fieldNames 13 h (by decide)
  have h2 : (fieldNames.drop 13).idxOf x = 1 := by
    show ([idW] : List (List UInt8)).idxOf x = 1
    rw [List.idxOf_cons, show (idW == x) = false from by simpa using fun e => hx e.symm]
    rfl
  omega
theorem field_id : fieldNames.idxOf idW = 13 := by decide
theorem field_status : fieldNames.idxOf statusW = 2 := by decide
theorem field_is_status {x : List UInt8} (h : fieldNames.idxOf x = 2) : x = statusW := by
  have := idx_lt (x := x) (l := fieldNames) (by rw [h]; decide)
  rw [h] at this
  exact this.symm
/-! ## marks, texts in quotes -/
theorem take_lex {s : List UInt8} (p : Nat) : textOf s (lex s p) = (s.drop (startOf s p)).take (lexRest (s.drop (startOf s p))).2 := by
  unfold textOf lex
  simp only []
  rw [Nat.add_sub_cancel_left]
theorem mark_text {s : List UInt8} {p : Nat} (h : (lex s p).kind = .mark) : textOf s (lex s p) = wOpen ∨ textOf s (lex s p) = wClose ∨ askNames.idxOf (textOf s (lex s p)) < 6 := by
  rw [take_lex]
  have h : (lexRest (s.drop (startOf s p))).1 = .mark := h
  generalize s.drop (startOf s p) = l at h
  cases l with
  | nil => cases h
  | cons c r =>
    have h : (lexCons c r).1 = .mark := h
    show (c :: r).take (lexCons c r).2 = _ ∨ (c :: r).take (lexCons c r).2 = _ ∨ askNames.idxOf ((c :: r).take (lexCons c r).2) < 6
    have hc : ∀ {k : Nat} (hk : k < 256), c.toNat = k → c = UInt8.ofNat k := fun hk e => by rw [← e]; exact (UInt8.ofNat_toNat).symm
    unfold lexCons at h ⊢
    split at h
    · cases h
    rename_i h1
    rw [if_neg h1]
    split at h
    · split at h <;> cases h
    rename_i h2
    rw [if_neg h2]
    split at h
    · split at h <;> cases h
    rename_i h3
    rw [if_neg h3]
    split at h
    · rename_i h4
      rw [if_pos h4]
      rcases h4 with h4 | h4 | h4
      · rw [hc (by omega) h4]; exact .inl rfl
      · rw [hc (by omega) h4]; exact .inr (.inl rfl)
      · rw [hc (by omega) h4]; exact .inr (.inr (by show askNames.idxOf [61] < 6; decide))
    rename_i h4
    rw [if_neg h4]
    split at h
    · rename_i h5
      rw [if_pos h5]
      split at h
      · rename_i h6
        rw [if_pos h6]
        cases r with
        | nil => cases h6
        | cons x r =>
          cases h6
          rcases h5 with h5 | h5 | h5
          · rw [hc (by omega) h5]; exact .inr (.inr (by show askNames.idxOf [33, 61] < 6; decide))
          · rw [hc (by omega) h5]; exact .inr (.inr (by show askNames.idxOf [60, 61] < 6; decide))
          · rw [hc (by omega) h5]; exact .inr (.inr (by show askNames.idxOf [62, 61] < 6; decide))
      · rename_i h6
        rw [if_neg h6]
        split at h
        · cases h
        · rename_i h7
          rw [if_neg h7]
          rcases h5 with h5 | h5 | h5
          · exact (h7 h5).elim
          · rw [hc (by omega) h5]; exact .inr (.inr (by show askNames.idxOf [60] < 6; decide))
          · rw [hc (by omega) h5]; exact .inr (.inr (by show askNames.idxOf [62] < 6; decide))
    · cases h
theorem dropWhile_none {q : UInt8 → Bool} : ∀ {l : List UInt8}, l.all (fun c => !q c) = true → l.dropWhile q = l
  | [], _ => rfl
  | c :: l, h => by
    rw [List.all_cons, Bool.and_eq_true] at h
    rw [List.dropWhile_cons, if_neg (by simpa using h.1)]
theorem trim_quoted {l : List UInt8} (h : l.all notQuote = true) : Lib.trimB (34 :: (l ++ [34])) 34 = l := by
  have hq : ∀ m : List UInt8, m.all notQuote = true → m.all (fun c => !(c == 34)) = true := by
    intro m hm
    rw [List.all_eq_true] at hm ⊢
    intro c hc
    have := hm c hc
    unfold notQuote at this
    simp only [decide_eq_true_eq] at this
    simp only [Bool.not_eq_true', beq_eq_false_iff_ne, ne_eq]
    rintro rfl
    exact this rfl
  unfold Lib.trimB Lib.trimLeftB Lib.trimRightB
  have e1 : (34 :: (l ++ [34])).reverse = 34 :: (l.reverse ++ [34]) := by simp
  rw [e1, List.dropWhile_cons, if_pos (by decide)]
  cases l with
  | nil => rfl
  | cons c r =>
    have hr : ((c :: r).reverse).all notQuote = true := by rw [List.all_reverse]; exact h
    have e2 : ((c :: r).reverse ++ [34]).dropWhile (· == 34) = (c :: r).reverse ++ [34] := by
      cases hx : (c :: r).reverse with
      | nil => simp at hx
      | cons x y =>
        rw [hx, List.all_cons, Bool.and_eq_true] at hr
        have := hq [x] (by simp [hr.1])
        rw [List.cons_append, List.dropWhile_cons, if_neg (by simpa using this)]
    rw [e2]
    have e3 : ((c :: r).reverse ++ [34]).reverse = 34 :: (c :: r) := by simp
    rw [e3, List.dropWhile_cons, if_pos (by decide)]
    exact dropWhile_none (hq _ h)
theorem quoted_text {s : List UInt8} {p : Nat} (h : (lex s p).kind = .quoted) : ∃ l, textOf s (lex s p) = 34 :: (l ++ [34]) ∧ l.all notQuote = true ∧ l.length ≤ 64 := by
  rw [take_lex]
  have h : (lexRest (s.drop (startOf s p))).1 = .quoted := h
  generalize s.drop (startOf s p) = l at h
  cases l with
  | nil => cases h
  | cons c r =>
    have h : (lexCons c r).1 = .quoted := h
    show ∃ l, (c :: r).take (lexCons c r).2 = _ ∧ _
    unfold lexCons at h ⊢
    split at h
    · cases h
    rename_i h1
    rw [if_neg h1]
    split at h
    · split at h <;> cases h
    rename_i h2
    rw [if_neg h2]
    split at h
    · rename_i h4
      rw [if_pos h4]
      split at h
      · rename_i h5
        rw [if_pos h5]
        have hc : c = 34 := by rw [show (34 : UInt8) = UInt8.ofNat 34 from rfl, ← h4]; exact (UInt8.ofNat_toNat).symm
        obtain ⟨n, hn⟩ : ∃ n, runLen notQuote r = n := ⟨_, rfl⟩
        have hlt : n < r.length := by rw [← hn]; exact h5.1
        refine ⟨r.take n, ?_, by rw [← hn]; exact runLen_all _ _, by rw [List.length_take]; omega⟩
        rw [hn, hc, List.take_succ_cons, List.take_add_one, List.getElem?_eq_getElem hlt]
        have : r[n] = 34 := by
          have key : ∀ (r : List UInt8) (n : Nat), runLen notQuote r = n → (hlt : n < r.length) → r[n] = 34 := by
            intro r
            induction r with
            | nil => intro n _ hlt; simp at hlt
            | cons x r ih =>
              intro n hn hlt
              unfold runLen at hn
              split at hn
              · obtain ⟨m, rfl⟩ : ∃ m, n = m + 1 := ⟨_, hn.symm⟩
                have hm : runLen notQuote r = m := by omega
                simpa using ih m hm (by simpa using hlt)
              · rename_i hx
                subst hn
                unfold notQuote at hx
                have hx : x.toNat = 34 := by simpa using hx
                show x = 34
                rw [show (34 : UInt8) = UInt8.ofNat 34 from rfl, ← hx]
                exact (UInt8.ofNat_toNat).symm
          exact key r n hn hlt
        rw [this]
        rfl
      · cases h
    · (repeat' split at h) <;> cases h
end Go.Proofs.YtkblkdnihppmnaaGreatDoor.Filt
/- Filters (layer 21): the document's numbers. No program in sight. -/
namespace Go.Proofs.YtkblkdnihppmnaaGreatDoor.Filt
set_option linter.unusedSimpArgs false
set_option linter.unusedVariables false
open Go

theorem digit_nat {c : UInt8} (h : isDigit c = true) : 48 ≤ c.toNat ∧ c.toNat ≤ 57 := of_decide_eq_true h
theorem all_at {q : UInt8 → Bool} {l : List UInt8} (h : l.all q = true) {i : Nat} {c : UInt8} (hc : l[i]? = some c) : q c = true := by
  obtain ⟨hi, rfl⟩ := List.getElem?_eq_some_iff.1 hc
  exact List.all_eq_true.1 h _ (List.getElem_mem hi)
theorem ne45_of {l : List UInt8} (h : l.all isDigit = true) : ∀ r, l ≠ 45 :: r := by
  rintro r rfl
  rw [List.all_cons, Bool.and_eq_true] at h
  have := digit_nat h.1
  have e : (45 : UInt8).toNat = 45 := rfl
  omega
theorem decVal_take {l : List UInt8} {i : Nat} {c : UInt8} (h : l[i]? = some c) : decVal (l.take (i + 1)) = 10 * decVal (l.take i) + (c.toNat - 48) := by
  rw [List.take_add_one, h]
  exact decVal_snoc _ _
theorem decVal_lt : ∀ {n : Nat} {l : List UInt8}, l.length = n → l.all isDigit = true → decVal l < 10 ^ n
  | 0, l, hl, _ => by
    obtain rfl := List.eq_nil_of_length_eq_zero hl
    decide
  | n + 1, l, hl, h => by
    rcases List.eq_nil_or_concat l with rfl | ⟨r, c, rfl⟩
    · simp at hl
    rw [List.concat_eq_append] at *
    rw [List.all_append, Bool.and_eq_true] at h
    have i := decVal_lt (n := n) (l := r) (by simpa using hl) h.1
    have hc := digit_nat (c := c) (by simpa using h.2)
    rw [decVal_snoc, Nat.pow_succ]
    omega
theorem decVal_ge : ∀ {n : Nat} {l : List UInt8}, l.length = n + 1 → l.all isDigit = true → l.head? ≠ some 48 → 10 ^ n ≤ decVal l
  | 0, l, hl, h, h0 => by
    match l, hl with
    | [c], _ =>
      have hc := digit_nat (c := c) (by simpa using h)
      have : c.toNat ≠ 48 := fun e => h0 (congrArg some (UInt8.toNat_inj.1 e))
      show 1 ≤ 10 * 0 + (c.toNat - 48)
      omega
  | n + 1, l, hl, h, h0 => by
    rcases List.eq_nil_or_concat l with rfl | ⟨r, c, rfl⟩
    · simp at hl
    rw [List.concat_eq_append] at *
    rw [List.all_append, Bool.and_eq_true] at h
    have hrl : r.length = n + 1 := by simpa using hl
    have i := decVal_ge (n := n) (l := r) hrl h.1 (by
      cases r with
      | nil => simp at hrl
      | cons a r => simpa using h0)
    rw [decVal_snoc, Nat.pow_succ]
    omega
/-- what the document makes of digits -/
def numDig (l : List UInt8) : Option Int :=
  if l = [] ∨ 19 < l.length ∨ (1 < l.length ∧ l.head? = some 48) then none else if decVal l ≤ 9223372036854775807 then some (decVal l : Int) else none
theorem mag_iff {l : List UInt8} (h : l.all isDigit = true) : magOk l = true ↔ l ≠ [] ∧ ¬ (1 < l.length ∧ l.head? = some 48) := by
  unfold magOk
  rw [h]
  cases l with
  | nil => simp
  | cons c r =>
    cases r with
    | nil => simp
    | cons d r => simp
theorem numDig_eq {l : List UInt8} (h : l.all isDigit = true) : numOf l = numDig l := by
  rw [numOf_plain (ne45_of h)]
  unfold numDig
  by_cases h1 : l = [] ∨ 19 < l.length ∨ (1 < l.length ∧ l.head? = some 48)
  · rw [if_pos h1]
    refine if_neg ?_
    rw [Bool.and_eq_true, mag_iff h, decide_eq_true_eq]
    rintro ⟨⟨h2, h3⟩, h4⟩
    rcases h1 with h1 | h1 | h1
    · exact h2 h1
    · have := decVal_ge (n := l.length - 1) (l := l) (by omega) h (fun e => h3 ⟨by omega, e⟩)
      have h5 : 10 ^ 19 ≤ 10 ^ (l.length - 1) := Nat.pow_le_pow_right (by omega) (by omega)
      omega
    · exact h3 h1
  · rw [if_neg h1]
    have h2 : magOk l = true := (mag_iff h).2 ⟨fun e => h1 (.inl e), fun e => h1 (.inr (.inr e))⟩
    rw [h2, Bool.true_and]
    by_cases h3 : decVal l ≤ 9223372036854775807
    · rw [if_pos (by simpa using h3), if_pos h3]
    · rw [if_neg (by simpa using h3), if_neg h3]
/-- the least number's digits -/
def min63 : List UInt8 := [57, 50, 50, 51, 51, 55, 50, 48, 51, 54, 56, 53, 52, 55, 55, 53, 56, 48, 56]
theorem min63_dec : decVal min63 = 9223372036854775808 := by decide
theorem min63_of {l : List UInt8} (h : l.all isDigit = true) (hm : magOk l = true) (hv : decVal l = 9223372036854775808) : l = min63 := by
  have h1 := (mag_iff h).1 hm
  have h2 := decDigits_first l h h1.1 (by
    by_cases e : l.length = 1
    · exact .inl e
    · refine .inr fun e2 => h1.2 ⟨?_, e2⟩
      have : l.length ≠ 0 := fun e3 => h1.1 (List.eq_nil_of_length_eq_zero e3)
      omega)
  have h3 := decDigits_first min63 (by decide) (by decide) (by decide)
  rw [← h2, hv, ← min63_dec, h3]
theorem numMinus_eq {r : List UInt8} (h : r.all isDigit = true) (hn : r ≠ min63) : numOf (45 :: r) = match numDig r with | some n => if 0 < n then some (-n) else none | none => none := by
  rw [← numDig_eq h, numOf_plain (ne45_of h)]
  show (if magOk r && decide (0 < decVal r) && decide (decVal r ≤ 9223372036854775808) then some (-(decVal r : Int)) else none) = _
  by_cases h1 : magOk r = true
  · rw [h1]
    simp only [Bool.true_and]
    have h2 : decVal r ≠ 9223372036854775808 := fun e => hn (min63_of h h1 e)
    by_cases h3 : decVal r ≤ 9223372036854775807
    · have h4 : decVal r ≤ 9223372036854775808 := by omega
      have h5 : decide (decVal r ≤ 9223372036854775807) = true := by simpa using h3
      have h6 : decide (decVal r ≤ 9223372036854775808) = true := by simpa using h4
      rw [h5, h6]
      simp only [Bool.and_true, if_true, decide_eq_true_eq]
      by_cases h7 : 0 < decVal r
      · rw [if_pos h7, if_pos (by omega)]
      · rw [if_neg h7, if_neg (by omega)]
    · have h4 : ¬ decVal r ≤ 9223372036854775808 := by omega
      have h5 : decide (decVal r ≤ 9223372036854775807) = false := by simpa using h3
      have h6 : decide (decVal r ≤ 9223372036854775808) = false := by simpa using h4
      rw [h5, h6]
      simp
  · have h1 : magOk r = false := by simpa using h1
    rw [h1]
    simp
theorem numMin : numOf (45 :: min63) = some (-9223372036854775808) := by decide
/-! ## what the document makes of any text -/
theorem num_nodigits {l : List UInt8} (h : l.all isDigit = false) (h45 : ∀ r, l ≠ 45 :: r) : numOf l = none := by
  rw [numOf_plain h45]
  have : magOk l = false := by unfold magOk; rw [h]; simp
  rw [this]
  rfl
theorem num_minus_no {r : List UInt8} (h : r.all isDigit = false) : numOf (45 :: r) = none := by
  show (if magOk r && decide (0 < decVal r) && decide (decVal r ≤ 9223372036854775808) then some (-(decVal r : Int)) else none) = _
  have : magOk r = false := by unfold magOk; rw [h]; simp
  rw [this]
  rfl
/-- what a text behind a minus makes of the number -/
theorem num_minus {r : List UInt8} (hn : r ≠ min63) : numOf (45 :: r) = match numOf r with | some n => if 0 < n then some (-n) else none | none => none := by
  by_cases h : r.all isDigit = true
  · rw [numMinus_eq h hn, numDig_eq h]
  · have h : r.all isDigit = false := by simpa using h
    rw [num_minus_no h]
    by_cases h45 : ∃ r', r = 45 :: r'
    · obtain ⟨r', rfl⟩ := h45
      cases hx : numOf (45 :: r') with
      | none => rfl
      | some n =>
        have hx : (if magOk r' && decide (0 < decVal r') && decide (decVal r' ≤ 9223372036854775808) then some (-(decVal r' : Int)) else none) = some n := hx
        split at hx
        · rename_i hc
          simp only [Bool.and_eq_true, decide_eq_true_eq] at hc
          cases hx
          simp only []
          rw [if_neg (by omega)]
        · cases hx
    · rw [num_nodigits h (fun r' e => h45 ⟨r', e⟩)]
theorem num_nil : numOf [] = none := by decide
theorem num_long {l : List UInt8} (h : 19 < l.length) (h45 : ∀ r, l ≠ 45 :: r) : numOf l = none := by
  by_cases hd : l.all isDigit = true
  · rw [numDig_eq hd]; exact if_pos (.inr (.inl h))
  · exact num_nodigits (by simpa using hd) h45
theorem num_zero {r : List UInt8} (h : r ≠ []) : numOf (48 :: r) = none := by
  by_cases hd : (48 :: r).all isDigit = true
  · rw [numDig_eq hd]
    refine if_pos (.inr (.inr ⟨?_, rfl⟩))
    have : r.length ≠ 0 := fun e => h (List.eq_nil_of_length_eq_zero e)
    simp only [List.length_cons]
    omega
  · exact num_nodigits (by simpa using hd) (by rintro r' e; cases e)
theorem num_digits {l : List UInt8} (h : l.all isDigit = true) (h0 : l ≠ []) (h1 : l.length ≤ 19) (h2 : ¬ (1 < l.length ∧ l.head? = some 48)) : numOf l = if decVal l ≤ 9223372036854775807 then some (decVal l : Int) else none := by
  rw [numDig_eq h]
  unfold numDig
  refine if_neg ?_
  rintro (h3 | h3 | h3)
  · exact h0 h3
  · omega
  · exact h2 h3
/-- what the document's Number hands back, whatever the text -/
def numR : List UInt8 → Int × Bool
  | [] => (0, false)
  | c :: r => if c = 45 ∧ r ≠ [] then (if r = min63 then (-9223372036854775808, true) else (IntKind.i64.wrap (-(numR r).1), (numR r).2 && decide (0 < (numR r).1)))
    else match numOf (c :: r) with
    | some n => (n, true)
    | none => (0, false)
theorem numR_plain {s : List UInt8} (h : ∀ r, r ≠ [] → s ≠ 45 :: r) : numR s = match numOf s with | some n => (n, true) | none => (0, false) := by
  cases s with
  | nil => rw [num_nil]; rfl
  | cons c r =>
    unfold numR
    rw [if_neg]
    rintro ⟨rfl, h2⟩
    exact h r h2 rfl
theorem numR_min : numR (45 :: min63) = (-9223372036854775808, true) := by
  unfold numR
  rw [if_pos ⟨rfl, by decide⟩, if_pos rfl]
theorem numR_minus {r : List UInt8} (h0 : r ≠ []) (hm : r ≠ min63) : numR (45 :: r) = (IntKind.i64.wrap (-(numR r).1), (numR r).2 && decide (0 < (numR r).1)) := by
  rw [numR, if_pos ⟨rfl, h0⟩, if_neg hm]
theorem numR_of : ∀ s : List UInt8, (numR s).2 = (numOf s).isSome ∧ ∀ n, numOf s = some n → (numR s).1 = n
  | [] => by rw [num_nil]; exact ⟨rfl, by simp⟩
  | c :: r => by
    by_cases h : c = 45 ∧ r ≠ []
    · obtain ⟨rfl, h0⟩ := h
      by_cases hm : r = min63
      · subst hm
        rw [numR_min, numMin]
        exact ⟨rfl, fun n hn => by cases hn; rfl⟩
      · have ih := numR_of r
        rw [numR_minus h0 hm, num_minus hm]
        dsimp only
        cases hx : numOf r with
        | none =>
          rw [hx] at ih
          rw [ih.1]
          exact ⟨rfl, by simp⟩
        | some n =>
          rw [hx] at ih
          rw [ih.1, ih.2 n rfl]
          by_cases hn : 0 < n
          · have hb := numOf_i64 hx
            have hb1 := hb.1
            have hb2 := hb.2
            have hw : IntKind.i64.wrap (-n) = -n := IntWalk.i64_in _ (by omega)
            simp only [hn, decide_true, Bool.and_true, Option.isSome_some, if_true, hw]
            exact ⟨trivial, fun m hm => by cases hm; rfl⟩
          · simp only [hn, decide_false, Bool.and_false, if_false]
            exact ⟨rfl, by simp⟩
    · rw [numR_plain (fun r' h' e => h ⟨(List.cons.inj e).1, by rw [(List.cons.inj e).2]; exact h'⟩)]
      cases numOf (c :: r) with
      | none => exact ⟨rfl, by simp⟩
      | some n => exact ⟨rfl, fun m hm => by cases hm; rfl⟩
theorem numR_some {s : List UInt8} {n : Int} (h : numOf s = some n) : numR s = (n, true) := by
  have := numR_of s
  rw [h] at this
  exact Prod.ext (this.2 n rfl) this.1
/-! ## places in lists -/
def refFind (fs : List (List UInt8)) (x : List UInt8) : Int := if x ≠ [] ∧ fs.idxOf x < fs.length then fs.idxOf x else -1
/-! ## blanks alone -/
end Go.Proofs.YtkblkdnihppmnaaGreatDoor.Filt
/- Filters (layer 21): words and marks, by their texts; the document's test. No program in sight. -/
namespace Go.Proofs.YtkblkdnihppmnaaGreatDoor.Filt
set_option linter.unusedSimpArgs false
set_option linter.unusedVariables false

theorem word_head {s : List UInt8} {p : Nat} (h : (lex s p).kind = .word) : ∃ c r, textOf s (lex s p) = c :: r ∧ isSmall c = true := by
  have hk : (lexRest (s.drop (startOf s p))).1 = .word := h
  rw [take_lex]
  cases hd : s.drop (startOf s p) with
  | nil => rw [hd] at hk; cases hk
  | cons c r =>
    rw [hd] at hk
    have hk : (lexCons c r).1 = .word := hk
    show ∃ c' r', (c :: r).take (lexCons c r).2 = c' :: r' ∧ _
    by_cases hs : isSmall c = true
    · have e : lexCons c r = (.word, runLen isAln r + 1) := if_pos hs
      rw [e]
      exact ⟨c, _, rfl, hs⟩
    · exfalso
      unfold lexCons at hk
      rw [if_neg hs] at hk
      split at hk
      · split at hk <;> cases hk
      · split at hk
        · split at hk <;> cases hk
        · split at hk
          · cases hk
          · split at hk
            · split at hk
              · cases hk
              · split at hk <;> cases hk
            · cases hk
theorem isOpen_iff {s : List UInt8} {p : Nat} : isWord s p wOpen ↔ (lex s p).kind = .mark ∧ textOf s (lex s p) = wOpen := by
  constructor
  · rintro ⟨h | h, ht⟩
    · obtain ⟨c, r, e, hc⟩ := word_head h
      rw [ht] at e
      have : c = 40 := (List.cons.inj e).1.symm
      subst this
      cases hc
    · exact ⟨h, ht⟩
  · rintro ⟨h, ht⟩
    exact ⟨.inr h, ht⟩
theorem isNot_iff {s : List UInt8} {p : Nat} : isWord s p wNot ↔ (lex s p).kind = .word ∧ textOf s (lex s p) = wNot := by
  constructor
  · rintro ⟨h | h, ht⟩
    · exact ⟨h, ht⟩
    · exfalso
      rcases mark_text h with e | e | e
      · rw [ht] at e; cases e
      · rw [ht] at e; cases e
      · rw [ht] at e; exact absurd e (by decide)
  · rintro ⟨h, ht⟩
    exact ⟨.inl h, ht⟩
section
variable {s : List UInt8}
theorem testF_of {p : Nat} : (lang s).test false p = testG (lang s).adv (atOf s) (isField s) (isAsk s) (fun p p1 p2 => testVal s (fieldOf s p) (askOf s p1) p2) false p := rfl
theorem testF_noField {p : Nat} (h : ¬ isField s p) : (lang s).test false p = .fail (lex s p).at_ := by
  rw [testF_of]; unfold testG; exact if_neg h
theorem testF_noAsk {p : Nat} (h : isField s p) (hk : ¬ isAsk s (lex s p).next) : (lang s).test false p = .fail (lex s (lex s p).next).at_ := by
  rw [testF_of]; unfold testG; rw [if_pos h, adv_lazy]; exact if_neg hk
theorem testF_none {p : Nat} (h : isField s p) (hk : isAsk s (lex s p).next) (hv : testVal s (fieldOf s p) (askOf s (lex s p).next) (lex s (lex s p).next).next = none) : (lang s).test false p = .fail (lex s (lex s (lex s p).next).next).at_ := by
  rw [testF_of]; unfold testG; rw [if_pos h, adv_lazy]
  dsimp only []
  rw [if_pos (show isAsk s ((lang s).next p) from hk), adv_lazy]
  dsimp only []
  rw [show testVal s (fieldOf s p) (askOf s ((lang s).next p)) ((lang s).next ((lang s).next p)) = none from hv]
  rfl
theorem testF_ok {p : Nat} {n : Nd} (h : isField s p) (hk : isAsk s (lex s p).next) (hv : testVal s (fieldOf s p) (askOf s (lex s p).next) (lex s (lex s p).next).next = some n) : (lang s).test false p = .ok n (lex s (lex s (lex s p).next).next).next := by
  rw [testF_of]; unfold testG; rw [if_pos h, adv_lazy]
  dsimp only []
  rw [if_pos (show isAsk s ((lang s).next p) from hk), adv_lazy]
  dsimp only []
  rw [show testVal s (fieldOf s p) (askOf s ((lang s).next p)) ((lang s).next ((lang s).next p)) = some n from hv]
  dsimp only []
  rw [adv_lazy]
  rfl
end
end Go.Proofs.YtkblkdnihppmnaaGreatDoor.Filt
