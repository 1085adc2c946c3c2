/- Filters (layer 21): how a text is read, by the program (which looks one token ahead) and by the document (which does not): the same. No program in sight. -/
import Derived.Test.YtkbffgnhiohpcaaDoorBase
namespace Go.Proofs.YtkbffgnhiohpcaaDoor.Filt
set_option linter.unusedSimpArgs false
set_option linter.unusedVariables false

/-! ## tokens -/
def runLen (p : UInt8 → Bool) : List UInt8 → Nat
  | [] => 0
  | c :: l => if p c then runLen p l + 1 else 0
def isBlank (c : UInt8) : Bool := decide (c.toNat = 32)
def isSmall (c : UInt8) : Bool := decide (97 ≤ c.toNat ∧ c.toNat ≤ 122)
def isDigit (c : UInt8) : Bool := decide (48 ≤ c.toNat ∧ c.toNat ≤ 57)
def isAln (c : UInt8) : Bool := isSmall c || isDigit c
def notQuote (c : UInt8) : Bool := decide (c.toNat ≠ 34)
/-- digits as a number -/
def decVal (l : List UInt8) : Nat := l.foldl (fun n c => 10 * n + (c.toNat - 48)) 0
/-- a number's text, without noughts ahead, perhaps - ahead (not of 0), in the bounds of 64 bits -/
def magOk (l : List UInt8) : Bool := !l.isEmpty && l.all isDigit && (l.length == 1 || l.head? != some 48)
def numOf (l : List UInt8) : Option Int :=
  match l with
  | 45 :: r => if magOk r && decide (0 < decVal r) && decide (decVal r ≤ 9223372036854775808) then some (-(decVal r : Int)) else none
  | l => if magOk l && decide (decVal l ≤ 9223372036854775807) then some (decVal l : Int) else none
inductive TK where | ended | word | digits | quoted | mark | bad
  deriving DecidableEq
structure Tok where
  kind : TK
  at_ : Nat
  next : Nat
/-- the token of a byte and what stands behind it: its kind, its length -/
def lexCons (c : UInt8) (r : List UInt8) : TK × Nat :=
    if isSmall c then (.word, runLen isAln r + 1)
    else if isDigit c || c.toNat == 45 then (if (numOf (c :: r.take (runLen isDigit r))).isSome then .digits else .bad, runLen isDigit r + 1)
    else if c.toNat = 34 then (if runLen notQuote r < r.length ∧ runLen notQuote r ≤ 64 then (.quoted, runLen notQuote r + 2) else (.bad, 0))
    else if c.toNat = 40 ∨ c.toNat = 41 ∨ c.toNat = 61 then (.mark, 1)
    else if c.toNat = 33 ∨ c.toNat = 60 ∨ c.toNat = 62 then
      (if r.head? = some 61 then (.mark, 2) else if c.toNat = 33 then (.bad, 1) else (.mark, 1))
    else (.bad, 1)
def lexRest : List UInt8 → TK × Nat
  | [] => (.ended, 0)
  | c :: r => lexCons c r
def startOf (s : List UInt8) (p : Nat) : Nat := p + runLen isBlank (s.drop p)
def lex (s : List UInt8) (p : Nat) : Tok :=
  ⟨(lexRest (s.drop (startOf s p))).1, startOf s p, startOf s p + (lexRest (s.drop (startOf s p))).2⟩
def textOf (s : List UInt8) (t : Tok) : List UInt8 := (s.drop t.at_).take (t.next - t.at_)

/-! ## words -/
def bs (x : String) : List UInt8 := x.toUTF8.data.toList
def fieldNames : List (List UInt8) := [[114, 117, 110], [116, 121, 112, 101], [115, 116, 97, 116, 117, 115], [98, 101, 103, 117, 110], [101, 110, 100, 101, 100], [100, 101, 97, 100, 108, 105, 110, 101], [112, 97, 114, 101, 110, 116], [101, 118, 101, 110, 116, 115], [118, 97, 108, 117, 101], [97, 48], [97, 49], [97, 50], [97, 51], [105, 100]]
def statusNames : List (List UInt8) := [[114, 117, 110, 110, 105, 110, 103], [99, 111, 109, 112, 108, 101, 116, 101, 100], [102, 97, 105, 108, 101, 100], [99, 97, 110, 99, 101, 108, 101, 100], [115, 116, 111, 112, 112, 101, 100], [116, 105, 109, 101, 100, 111, 117, 116], [99, 111, 110, 116, 105, 110, 117, 101, 100]]
def askNames : List (List UInt8) := [[61], [33, 61], [60], [60, 61], [62], [62, 61]]
def wNot : List UInt8 := [110, 111, 116]
def wAnd : List UInt8 := [97, 110, 100]
def wOr : List UInt8 := [111, 114]
def wOpen : List UInt8 := [40]
def wClose : List UInt8 := [41]
/-- a filter -/
inductive Nd where
  | num (field ask : Nat) (n : Int)
  | idt (ask : Nat) (s : List UInt8)
  | not (n : Nd)
  | all (a b : Nd)
  | any (a b : Nd)
inductive Res where
  | ok (n : Nd) (p : Nat)
  | fail (at_ : Nat)

/-- a text, as its tokens are asked -/
structure Lang where
  bad : Nat → Prop
  next : Nat → Nat
  at_ : Nat → Nat
  isNot : Nat → Prop
  isOpen : Nat → Prop
  isClose : Nat → Prop
  isAnd : Nat → Prop
  isOr : Nat → Prop
  test : Bool → Nat → Res
open Classical in
/-- behind the token at hand: the program looks at once whether the next one is one -/
noncomputable def advG (bad : Nat → Prop) (next at_ : Nat → Nat) (e : Bool) (p : Nat) : Except Nat Nat := if e = true ∧ bad (next p) then .error (at_ (next p)) else .ok (next p)
noncomputable def Lang.adv (L : Lang) (e : Bool) (p : Nat) : Except Nat Nat := advG L.bad L.next L.at_ e p
open Classical in
/-- a test: a field's name, what it asks, a value -/
noncomputable def testG (adv : Bool → Nat → Except Nat Nat) (at_ : Nat → Nat) (isField isAsk : Nat → Prop) (val : Nat → Nat → Nat → Option Nd) (e : Bool) (p : Nat) : Res :=
  if isField p then
    match adv e p with
    | .error a => .fail a
    | .ok p1 =>
      if isAsk p1 then
        match adv e p1 with
        | .error a => .fail a
        | .ok p2 =>
          match val p p1 p2 with
          | none => .fail (at_ p2)
          | some n =>
            match adv e p2 with
            | .error a => .fail a
            | .ok p3 => .ok n p3
      else .fail (at_ p1)
  else .fail (at_ p)
open Classical in
/-- what the document reads, as the program tells it -/
noncomputable def Lang.wrap (L : Lang) : Res → Res
  | .ok n p => if L.bad p then .fail (L.at_ p) else .ok n p
  | .fail a => .fail a
/-- what is read -/
inductive NT where
  | one
  | all
  | any
  | allMore (acc : Nd)
  | anyMore (acc : Nd)
inductive Reads (L : Lang) (e : Bool) : NT → Nat → Nat → Res → Prop where
  | test {d p : Nat} (h1 : ¬ L.isNot p) (h2 : ¬ L.isOpen p) : Reads L e .one d p (L.test e p)
  | deep {d p : Nat} (h : L.isNot p ∨ L.isOpen p) (hd : d = 32) : Reads L e .one d p (.fail (L.at_ p))
  | notBad {d p a : Nat} (h : L.isNot p) (hd : d ≠ 32) (ha : L.adv e p = .error a) : Reads L e .one d p (.fail a)
  | notOk {d p p1 p2 : Nat} {n : Nd} (h : L.isNot p) (hd : d ≠ 32) (ha : L.adv e p = .ok p1) (hr : Reads L e .one (d + 1) p1 (.ok n p2)) : Reads L e .one d p (.ok (.not n) p2)
  | notFail {d p p1 a : Nat} (h : L.isNot p) (hd : d ≠ 32) (ha : L.adv e p = .ok p1) (hr : Reads L e .one (d + 1) p1 (.fail a)) : Reads L e .one d p (.fail a)
  | openBad {d p a : Nat} (h0 : ¬ L.isNot p) (h : L.isOpen p) (hd : d ≠ 32) (ha : L.adv e p = .error a) : Reads L e .one d p (.fail a)
  | openFail {d p p1 a : Nat} (h0 : ¬ L.isNot p) (h : L.isOpen p) (hd : d ≠ 32) (ha : L.adv e p = .ok p1) (hr : Reads L e .any (d + 1) p1 (.fail a)) : Reads L e .one d p (.fail a)
  | openNot {d p p1 p2 : Nat} {n : Nd} (h0 : ¬ L.isNot p) (h : L.isOpen p) (hd : d ≠ 32) (ha : L.adv e p = .ok p1) (hr : Reads L e .any (d + 1) p1 (.ok n p2)) (hc : ¬ L.isClose p2) : Reads L e .one d p (.fail (L.at_ p2))
  | openClose {d p p1 p2 a : Nat} {n : Nd} (h0 : ¬ L.isNot p) (h : L.isOpen p) (hd : d ≠ 32) (ha : L.adv e p = .ok p1) (hr : Reads L e .any (d + 1) p1 (.ok n p2)) (hc : L.isClose p2) (hb : L.adv e p2 = .error a) : Reads L e .one d p (.fail a)
  | openOk {d p p1 p2 p3 : Nat} {n : Nd} (h0 : ¬ L.isNot p) (h : L.isOpen p) (hd : d ≠ 32) (ha : L.adv e p = .ok p1) (hr : Reads L e .any (d + 1) p1 (.ok n p2)) (hc : L.isClose p2) (hb : L.adv e p2 = .ok p3) : Reads L e .one d p (.ok n p3)
  | allFail {d p a : Nat} (h : Reads L e .one d p (.fail a)) : Reads L e .all d p (.fail a)
  | allOk {d p p1 : Nat} {n : Nd} {r : Res} (h : Reads L e .one d p (.ok n p1)) (hr : Reads L e (.allMore n) d p1 r) : Reads L e .all d p r
  | allEnd {d p : Nat} {n : Nd} (h : ¬ L.isAnd p) : Reads L e (.allMore n) d p (.ok n p)
  | allBad {d p a : Nat} {n : Nd} (h : L.isAnd p) (ha : L.adv e p = .error a) : Reads L e (.allMore n) d p (.fail a)
  | allNo {d p p1 a : Nat} {n : Nd} (h : L.isAnd p) (ha : L.adv e p = .ok p1) (hr : Reads L e .one d p1 (.fail a)) : Reads L e (.allMore n) d p (.fail a)
  | allMore {d p p1 p2 : Nat} {n m : Nd} {r : Res} (h : L.isAnd p) (ha : L.adv e p = .ok p1) (hr : Reads L e .one d p1 (.ok m p2)) (hm : Reads L e (.allMore (.all n m)) d p2 r) : Reads L e (.allMore n) d p r
  | anyFail {d p a : Nat} (h : Reads L e .all d p (.fail a)) : Reads L e .any d p (.fail a)
  | anyOk {d p p1 : Nat} {n : Nd} {r : Res} (h : Reads L e .all d p (.ok n p1)) (hr : Reads L e (.anyMore n) d p1 r) : Reads L e .any d p r
  | anyEnd {d p : Nat} {n : Nd} (h : ¬ L.isOr p) : Reads L e (.anyMore n) d p (.ok n p)
  | anyBad {d p a : Nat} {n : Nd} (h : L.isOr p) (ha : L.adv e p = .error a) : Reads L e (.anyMore n) d p (.fail a)
  | anyNo {d p p1 a : Nat} {n : Nd} (h : L.isOr p) (ha : L.adv e p = .ok p1) (hr : Reads L e .all d p1 (.fail a)) : Reads L e (.anyMore n) d p (.fail a)
  | anyMore {d p p1 p2 : Nat} {n m : Nd} {r : Res} (h : L.isOr p) (ha : L.adv e p = .ok p1) (hr : Reads L e .all d p1 (.ok m p2)) (hm : Reads L e (.anyMore (.any n m)) d p2 r) : Reads L e (.anyMore n) d p r
/-! ## to look ahead or not -/
theorem adv_lazy {L : Lang} {p : Nat} : L.adv false p = .ok (L.next p) := by unfold Lang.adv advG; rw [if_neg (by simp)]
theorem adv_err {L : Lang} {p a : Nat} (h : L.adv true p = .error a) : L.bad (L.next p) ∧ a = L.at_ (L.next p) := by
  unfold Lang.adv advG at h
  split at h
  · rename_i h1; cases h; exact ⟨h1.2, rfl⟩
  · cases h
theorem adv_ok {L : Lang} {p q : Nat} (h : L.adv true p = .ok q) : q = L.next p ∧ ¬ L.bad q := by
  unfold Lang.adv advG at h
  split at h
  · cases h
  · rename_i h1; cases h; exact ⟨rfl, fun x => h1 ⟨rfl, x⟩⟩
structure Lang.Good (L : Lang) : Prop where
  word : ∀ {p}, L.bad p → (L.isNot p ∨ L.isOpen p ∨ L.isClose p ∨ L.isAnd p ∨ L.isOr p) → False
  test : ∀ e p, L.bad p → L.test e p = .fail (L.at_ p)
  look : ∀ p, L.test true p = L.wrap (L.test false p)
theorem test_look {L : Lang} {isField isAsk : Nat → Prop} {val : Nat → Nat → Nat → Option Nd} (ha : ∀ {p}, L.bad p → ¬ isAsk p) (hv : ∀ p p1 {p2}, L.bad p2 → val p p1 p2 = none) (p : Nat) :
    testG L.adv L.at_ isField isAsk val true p = L.wrap (testG L.adv L.at_ isField isAsk val false p) := by
  unfold testG
  by_cases h1 : isField p
  · rw [if_pos h1, if_pos h1, adv_lazy]
    simp only []
    cases h2 : L.adv true p with
    | error a =>
      obtain ⟨hb, rfl⟩ := adv_err h2
      simp only []
      rw [if_neg (ha hb)]
      rfl
    | ok p1 =>
      obtain ⟨rfl, hn⟩ := adv_ok h2
      simp only []
      by_cases h3 : isAsk (L.next p)
      · rw [if_pos h3, if_pos h3, adv_lazy]
        simp only []
        cases h4 : L.adv true (L.next p) with
        | error a =>
          obtain ⟨hb, rfl⟩ := adv_err h4
          rw [hv _ _ hb]
          rfl
        | ok p2 =>
          obtain ⟨rfl, hn2⟩ := adv_ok h4
          simp only []
          cases val p (L.next p) (L.next (L.next p)) with
          | none => rfl
          | some n =>
            simp only [adv_lazy]
            cases h5 : L.adv true (L.next (L.next p)) with
            | error a =>
              obtain ⟨hb, rfl⟩ := adv_err h5
              simp only [Lang.wrap]
              rw [if_pos hb]
            | ok p3 =>
              obtain ⟨rfl, hn3⟩ := adv_ok h5
              simp only [Lang.wrap]
              rw [if_neg hn3]
      · rw [if_neg h3, if_neg h3]
        rfl
  · rw [if_neg h1, if_neg h1]
    rfl
section
variable {L : Lang} (hB : L.Good)
include hB
theorem reads_bad {e : Bool} {p d : Nat} (hb : L.bad p) {nt : NT} (hn : nt = .one ∨ nt = .all ∨ nt = .any) {r : Res} (h : Reads L e nt d p r) : r = .fail (L.at_ p) := by
  have one : ∀ {d r}, Reads L e .one d p r → r = .fail (L.at_ p) := by
    intro d r h
    cases h with
    | test => exact hB.test _ _ hb
    | deep => rfl
    | notBad h => exact (hB.word hb (by simp only [h, true_or, or_true])).elim
    | notOk h => exact (hB.word hb (by simp only [h, true_or, or_true])).elim
    | notFail h => exact (hB.word hb (by simp only [h, true_or, or_true])).elim
    | openBad _ h => exact (hB.word hb (by simp only [h, true_or, or_true])).elim
    | openFail _ h => exact (hB.word hb (by simp only [h, true_or, or_true])).elim
    | openNot _ h => exact (hB.word hb (by simp only [h, true_or, or_true])).elim
    | openClose _ h => exact (hB.word hb (by simp only [h, true_or, or_true])).elim
    | openOk _ h => exact (hB.word hb (by simp only [h, true_or, or_true])).elim
  have all : ∀ {d r}, Reads L e .all d p r → r = .fail (L.at_ p) := by
    intro d r h
    cases h with
    | allFail h => exact one h
    | allOk h => have := one h; cases this
  rcases hn with rfl | rfl | rfl
  · exact one h
  · exact all h
  · cases h with
    | anyFail h => exact all h
    | anyOk h => have := all h; cases this
theorem reads_same {nt : NT} {d p : Nat} {r : Res} (h : Reads L true nt d p r) : ¬ L.bad p → ∀ {r' : Res}, Reads L false nt d p r' → r = L.wrap r' := by
  induction h with
  | test h1 h2 =>
    intro hb r' h
    cases h with
    | test => exact hB.look _
    | deep h => rcases h with h | h <;> contradiction
    | notBad h => contradiction
    | notOk h => contradiction
    | notFail h => contradiction
    | openBad _ h => contradiction
    | openFail _ h => contradiction
    | openNot _ h => contradiction
    | openClose _ h => contradiction
    | openOk _ h => contradiction
  | deep hw hd =>
    intro hb r' h
    cases h with
    | test h1 h2 => rcases hw with h | h <;> contradiction
    | deep h => rfl
    | _ => contradiction
  | notBad hw hd ha =>
    intro hb r' h
    obtain ⟨hb1, rfl⟩ := adv_err ha
    cases h with
    | test h1 h2 => contradiction
    | deep _ h => contradiction
    | notBad _ _ ha' => rw [adv_lazy] at ha'; cases ha'
    | notOk _ _ ha' hr => rw [adv_lazy] at ha'; cases ha'; have := reads_bad hB hb1 (.inl rfl) hr; cases this
    | notFail _ _ ha' hr => rw [adv_lazy] at ha'; cases ha'; have := reads_bad hB hb1 (.inl rfl) hr; cases this; rfl
    | openBad h => contradiction
    | openFail h => contradiction
    | openNot h => contradiction
    | openClose h => contradiction
    | openOk h => contradiction
  | notOk hw hd ha hr ih =>
    intro hb r' h
    obtain ⟨rfl, hn⟩ := adv_ok ha
    cases h with
    | test h1 h2 => contradiction
    | deep _ h => contradiction
    | notBad _ _ ha' => rw [adv_lazy] at ha'; cases ha'
    | notOk _ _ ha' hr' =>
      rw [adv_lazy] at ha'; cases ha'
      have := ih hn hr'
      simp only [Lang.wrap] at this ⊢
      split at this
      · cases this
      · rename_i h1; cases this; rw [if_neg h1]
    | notFail _ _ ha' hr' => rw [adv_lazy] at ha'; cases ha'; have := ih hn hr'; cases this
    | openBad h => contradiction
    | openFail h => contradiction
    | openNot h => contradiction
    | openClose h => contradiction
    | openOk h => contradiction
  | notFail hw hd ha hr ih =>
    intro hb r' h
    obtain ⟨rfl, hn⟩ := adv_ok ha
    cases h with
    | test h1 h2 => contradiction
    | deep _ h => contradiction
    | notBad _ _ ha' => rw [adv_lazy] at ha'; cases ha'
    | notOk _ _ ha' hr' =>
      rw [adv_lazy] at ha'; cases ha'
      have := ih hn hr'
      simp only [Lang.wrap] at this ⊢
      split at this
      · rename_i h1; cases this; rw [if_pos h1]
      · cases this
    | notFail _ _ ha' hr' => rw [adv_lazy] at ha'; cases ha'; have := ih hn hr'; cases this; rfl
    | openBad h => contradiction
    | openFail h => contradiction
    | openNot h => contradiction
    | openClose h => contradiction
    | openOk h => contradiction
  | openBad h0 hw hd ha =>
    intro hb r' h
    obtain ⟨hb1, rfl⟩ := adv_err ha
    cases h with
    | test h1 h2 => contradiction
    | deep _ h => contradiction
    | notBad h => contradiction
    | notOk h => contradiction
    | notFail h => contradiction
    | openBad _ _ _ ha' => rw [adv_lazy] at ha'; cases ha'
    | openFail _ _ _ ha' hr => rw [adv_lazy] at ha'; cases ha'; have := reads_bad hB hb1 (.inr (.inr rfl)) hr; cases this; rfl
    | openNot _ _ _ ha' hr => rw [adv_lazy] at ha'; cases ha'; have := reads_bad hB hb1 (.inr (.inr rfl)) hr; cases this
    | openClose _ _ _ ha' hr => rw [adv_lazy] at ha'; cases ha'; have := reads_bad hB hb1 (.inr (.inr rfl)) hr; cases this
    | openOk _ _ _ ha' hr => rw [adv_lazy] at ha'; cases ha'; have := reads_bad hB hb1 (.inr (.inr rfl)) hr; cases this
  | openFail h0 hw hd ha hr ih =>
    intro hb r' h
    obtain ⟨rfl, hn⟩ := adv_ok ha
    cases h with
    | test h1 h2 => contradiction
    | deep _ h => contradiction
    | notBad h => contradiction
    | notOk h => contradiction
    | notFail h => contradiction
    | openBad _ _ _ ha' => rw [adv_lazy] at ha'; cases ha'
    | openFail _ _ _ ha' hr' => rw [adv_lazy] at ha'; cases ha'; exact ih hn hr'
    | openNot _ _ _ ha' hr' hc =>
      rw [adv_lazy] at ha'; cases ha'
      have := ih hn hr'
      simp only [Lang.wrap] at this
      split at this
      · cases this; rfl
      · cases this
    | openClose _ _ _ ha' hr' hc hb' => rw [adv_lazy] at hb'; cases hb'
    | openOk _ _ _ ha' hr' hc =>
      rw [adv_lazy] at ha'; cases ha'
      have := ih hn hr'
      simp only [Lang.wrap] at this
      split at this
      · rename_i h1; exact (hB.word h1 (by simp only [hc, true_or, or_true])).elim
      · cases this
  | openNot h0 hw hd ha hr hc ih =>
    intro hb r' h
    obtain ⟨rfl, hn⟩ := adv_ok ha
    cases h with
    | test h1 h2 => contradiction
    | deep _ h => contradiction
    | notBad h => contradiction
    | notOk h => contradiction
    | notFail h => contradiction
    | openBad _ _ _ ha' => rw [adv_lazy] at ha'; cases ha'
    | openFail _ _ _ ha' hr' => rw [adv_lazy] at ha'; cases ha'; have := ih hn hr'; cases this
    | openNot _ _ _ ha' hr' hc' =>
      rw [adv_lazy] at ha'; cases ha'
      have := ih hn hr'
      simp only [Lang.wrap] at this
      split at this
      · cases this
      · cases this; rfl
    | openClose _ _ _ ha' hr' hc' hb' => rw [adv_lazy] at hb'; cases hb'
    | openOk _ _ _ ha' hr' hc' =>
      rw [adv_lazy] at ha'; cases ha'
      have := ih hn hr'
      simp only [Lang.wrap] at this
      split at this
      · cases this
      · cases this; contradiction
  | openClose h0 hw hd ha hr hc hx ih =>
    intro hb r' h
    obtain ⟨rfl, hn⟩ := adv_ok ha
    obtain ⟨hb1, rfl⟩ := adv_err hx
    cases h with
    | test h1 h2 => contradiction
    | deep _ h => contradiction
    | notBad h => contradiction
    | notOk h => contradiction
    | notFail h => contradiction
    | openBad _ _ _ ha' => rw [adv_lazy] at ha'; cases ha'
    | openFail _ _ _ ha' hr' => rw [adv_lazy] at ha'; cases ha'; have := ih hn hr'; cases this
    | openNot _ _ _ ha' hr' hc' =>
      rw [adv_lazy] at ha'; cases ha'
      have := ih hn hr'
      simp only [Lang.wrap] at this
      split at this
      · cases this
      · cases this; contradiction
    | openClose _ _ _ ha' hr' hc' hb' => rw [adv_lazy] at hb'; cases hb'
    | openOk _ _ _ ha' hr' hc' hb' =>
      rw [adv_lazy] at ha'; cases ha'
      rw [adv_lazy] at hb'; cases hb'
      have := ih hn hr'
      simp only [Lang.wrap] at this
      split at this
      · cases this
      · cases this
        simp only [Lang.wrap]
        rw [if_pos hb1]
  | openOk h0 hw hd ha hr hc hx ih =>
    intro hb r' h
    obtain ⟨rfl, hn⟩ := adv_ok ha
    obtain ⟨rfl, hn3⟩ := adv_ok hx
    cases h with
    | test h1 h2 => contradiction
    | deep _ h => contradiction
    | notBad h => contradiction
    | notOk h => contradiction
    | notFail h => contradiction
    | openBad _ _ _ ha' => rw [adv_lazy] at ha'; cases ha'
    | openFail _ _ _ ha' hr' => rw [adv_lazy] at ha'; cases ha'; have := ih hn hr'; cases this
    | openNot _ _ _ ha' hr' hc' =>
      rw [adv_lazy] at ha'; cases ha'
      have := ih hn hr'
      simp only [Lang.wrap] at this
      split at this
      · cases this
      · cases this; contradiction
    | openClose _ _ _ ha' hr' hc' hb' => rw [adv_lazy] at hb'; cases hb'
    | openOk _ _ _ ha' hr' hc' hb' =>
      rw [adv_lazy] at ha'; cases ha'
      rw [adv_lazy] at hb'; cases hb'
      have := ih hn hr'
      simp only [Lang.wrap] at this
      split at this
      · cases this
      · cases this
        simp only [Lang.wrap]
        rw [if_neg hn3]
  | allFail hr ih =>
    intro hb r' h
    cases h with
    | allFail h => exact ih hb h
    | allOk h hm =>
      have := ih hb h
      simp only [Lang.wrap] at this
      split at this
      · rename_i h1
        cases this
        cases hm with
        | allEnd => simp only [Lang.wrap]; rw [if_pos h1]
        | allBad h => exact (hB.word h1 (by simp only [h, true_or, or_true])).elim
        | allNo h => exact (hB.word h1 (by simp only [h, true_or, or_true])).elim
        | allMore h => exact (hB.word h1 (by simp only [h, true_or, or_true])).elim
      · cases this
  | allOk hr hm ih1 ih2 =>
    intro hb r' h
    cases h with
    | allFail h => have := ih1 hb h; cases this
    | allOk h hm' =>
      have := ih1 hb h
      simp only [Lang.wrap] at this
      split at this
      · cases this
      · rename_i h1; cases this; exact ih2 h1 hm'
  | allEnd hw =>
    intro hb r' h
    cases h with
    | allEnd => simp only [Lang.wrap]; rw [if_neg hb]
    | allBad h => contradiction
    | allNo h => contradiction
    | allMore h => contradiction
  | allBad hw ha =>
    intro hb r' h
    obtain ⟨hb1, rfl⟩ := adv_err ha
    cases h with
    | allEnd => contradiction
    | allBad h ha' => rw [adv_lazy] at ha'; cases ha'
    | allNo h ha' hr' => rw [adv_lazy] at ha'; cases ha'; have := reads_bad hB hb1 (.inl rfl) hr'; cases this; rfl
    | allMore h ha' hr' => rw [adv_lazy] at ha'; cases ha'; have := reads_bad hB hb1 (.inl rfl) hr'; cases this
  | allNo hw ha hr ih =>
    intro hb r' h
    obtain ⟨rfl, hn⟩ := adv_ok ha
    cases h with
    | allEnd => contradiction
    | allBad h ha' => rw [adv_lazy] at ha'; cases ha'
    | allNo h ha' hr' => rw [adv_lazy] at ha'; cases ha'; exact ih hn hr'
    | allMore h ha' hr' hm =>
      rw [adv_lazy] at ha'; cases ha'
      have := ih hn hr'
      simp only [Lang.wrap] at this
      split at this
      · rename_i h1
        cases this
        cases hm with
        | allEnd => simp only [Lang.wrap]; rw [if_pos h1]
        | allBad h => exact (hB.word h1 (by simp only [h, true_or, or_true])).elim
        | allNo h => exact (hB.word h1 (by simp only [h, true_or, or_true])).elim
        | allMore h => exact (hB.word h1 (by simp only [h, true_or, or_true])).elim
      · cases this
  | allMore hw ha hr hm ih1 ih2 =>
    intro hb r' h
    obtain ⟨rfl, hn⟩ := adv_ok ha
    cases h with
    | allEnd => contradiction
    | allBad h ha' => rw [adv_lazy] at ha'; cases ha'
    | allNo h ha' hr' => rw [adv_lazy] at ha'; cases ha'; have := ih1 hn hr'; cases this
    | allMore h ha' hr' hm' =>
      rw [adv_lazy] at ha'; cases ha'
      have := ih1 hn hr'
      simp only [Lang.wrap] at this
      split at this
      · cases this
      · rename_i h1; cases this; exact ih2 h1 hm'
  | anyFail hr ih =>
    intro hb r' h
    cases h with
    | anyFail h => exact ih hb h
    | anyOk h hm =>
      have := ih hb h
      simp only [Lang.wrap] at this
      split at this
      · rename_i h1
        cases this
        cases hm with
        | anyEnd => simp only [Lang.wrap]; rw [if_pos h1]
        | anyBad h => exact (hB.word h1 (by simp only [h, true_or, or_true])).elim
        | anyNo h => exact (hB.word h1 (by simp only [h, true_or, or_true])).elim
        | anyMore h => exact (hB.word h1 (by simp only [h, true_or, or_true])).elim
      · cases this
  | anyOk hr hm ih1 ih2 =>
    intro hb r' h
    cases h with
    | anyFail h => have := ih1 hb h; cases this
    | anyOk h hm' =>
      have := ih1 hb h
      simp only [Lang.wrap] at this
      split at this
      · cases this
      · rename_i h1; cases this; exact ih2 h1 hm'
  | anyEnd hw =>
    intro hb r' h
    cases h with
    | anyEnd => simp only [Lang.wrap]; rw [if_neg hb]
    | anyBad h => contradiction
    | anyNo h => contradiction
    | anyMore h => contradiction
  | anyBad hw ha =>
    intro hb r' h
    obtain ⟨hb1, rfl⟩ := adv_err ha
    cases h with
    | anyEnd => contradiction
    | anyBad h ha' => rw [adv_lazy] at ha'; cases ha'
    | anyNo h ha' hr' => rw [adv_lazy] at ha'; cases ha'; have := reads_bad hB hb1 (.inr (.inl rfl)) hr'; cases this; rfl
    | anyMore h ha' hr' => rw [adv_lazy] at ha'; cases ha'; have := reads_bad hB hb1 (.inr (.inl rfl)) hr'; cases this
  | anyNo hw ha hr ih =>
    intro hb r' h
    obtain ⟨rfl, hn⟩ := adv_ok ha
    cases h with
    | anyEnd => contradiction
    | anyBad h ha' => rw [adv_lazy] at ha'; cases ha'
    | anyNo h ha' hr' => rw [adv_lazy] at ha'; cases ha'; exact ih hn hr'
    | anyMore h ha' hr' hm =>
      rw [adv_lazy] at ha'; cases ha'
      have := ih hn hr'
      simp only [Lang.wrap] at this
      split at this
      · rename_i h1
        cases this
        cases hm with
        | anyEnd => simp only [Lang.wrap]; rw [if_pos h1]
        | anyBad h => exact (hB.word h1 (by simp only [h, true_or, or_true])).elim
        | anyNo h => exact (hB.word h1 (by simp only [h, true_or, or_true])).elim
        | anyMore h => exact (hB.word h1 (by simp only [h, true_or, or_true])).elim
      · cases this
  | anyMore hw ha hr hm ih1 ih2 =>
    intro hb r' h
    obtain ⟨rfl, hn⟩ := adv_ok ha
    cases h with
    | anyEnd => contradiction
    | anyBad h ha' => rw [adv_lazy] at ha'; cases ha'
    | anyNo h ha' hr' => rw [adv_lazy] at ha'; cases ha'; have := ih1 hn hr'; cases this
    | anyMore h ha' hr' hm' =>
      rw [adv_lazy] at ha'; cases ha'
      have := ih1 hn hr'
      simp only [Lang.wrap] at this
      split at this
      · cases this
      · rename_i h1; cases this; exact ih2 h1 hm'
end
end Go.Proofs.YtkbffgnhiohpcaaDoor.Filt
