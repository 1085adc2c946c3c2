/- Filters (layer 21): the tokens of a text, what a filter holds of, and its text, by the program and by the document. No program in sight. -/
import Derived.Test.YtkbffgnhiohpcaaDoorFilt
namespace Go.Proofs.YtkbffgnhiohpcaaDoor.Filt
set_option linter.unusedSimpArgs false
set_option linter.unusedVariables false

/-! ## the tokens of a text -/
section
variable (s : List UInt8)
def isWord (p : Nat) (w : List UInt8) : Prop := ((lex s p).kind = .word ∨ (lex s p).kind = .mark) ∧ textOf s (lex s p) = w
/-- a test's value -/
def testVal (f k p : Nat) : Option Nd :=
  if f = 13 ∧ (lex s p).kind = .quoted then some (.idt k ((textOf s (lex s p)).drop 1).dropLast)
  else if f ≠ 13 ∧ (lex s p).kind = .digits then some (.num f k ((numOf (textOf s (lex s p))).getD 0))
  else if f = 2 ∧ (lex s p).kind = .word ∧ statusNames.idxOf (textOf s (lex s p)) < 7 then some (.num f k (statusNames.idxOf (textOf s (lex s p)) + 1))
  else none
def fieldOf (p : Nat) : Nat := fieldNames.idxOf (textOf s (lex s p))
def askOf (p : Nat) : Nat := askNames.idxOf (textOf s (lex s p))
def isBad (p : Nat) : Prop := (lex s p).kind = .bad
def nextOf (p : Nat) : Nat := (lex s p).next
def atOf (p : Nat) : Nat := (lex s p).at_
def isField (p : Nat) : Prop := (lex s p).kind = .word ∧ fieldOf s p < 14
def isAsk (p : Nat) : Prop := (lex s p).kind = .mark ∧ askOf s p < 6
noncomputable def lang : Lang where
  bad := isBad s
  next := nextOf s
  at_ := atOf s
  isNot p := isWord s p wNot
  isOpen p := isWord s p wOpen
  isClose p := isWord s p wClose
  isAnd p := isWord s p wAnd
  isOr p := isWord s p wOr
  test := testG (advG (isBad s) (nextOf s) (atOf s)) (atOf s) (isField s) (isAsk s) fun p p1 p2 => testVal s (fieldOf s p) (askOf s p1) p2
theorem testVal_bad {f k p : Nat} (h : isBad s p) : testVal s f k p = none := by
  have h : (lex s p).kind = .bad := h
  unfold testVal
  rw [h]
  simp
theorem lang_good : (lang s).Good where
  word := by
    intro p h
    have h' : (lex s p).kind = .bad := h
    have key : ∀ w, ¬ isWord s p w := fun w hw => by
      unfold isWord at hw
      rw [h'] at hw
      rcases hw.1 with h1 | h1 <;> cases h1
    rintro (h1 | h1 | h1 | h1 | h1) <;> exact key _ h1
  test := by
    intro e p h
    have h' : (lex s p).kind = .bad := h
    show testG (advG (isBad s) (nextOf s) (atOf s)) (atOf s) (isField s) (isAsk s) (fun p p1 p2 => testVal s (fieldOf s p) (askOf s p1) p2) e p = .fail (atOf s p)
    unfold testG
    exact if_neg (by unfold isField; rw [h']; simp)
  look := fun p => test_look (L := lang s) (isField := isField s) (isAsk := isAsk s) (val := fun p p1 p2 => testVal s (fieldOf s p) (askOf s p1) p2) (fun {p} h => by have h : (lex s p).kind = .bad := h; unfold isAsk; rw [h]; simp) (fun _ _ _ h => testVal_bad s h) p
end

/-! ## a text as a filter -/
inductive Out where
  | ok (f : Option Nd)
  | no (at_ : Nat)
/-- by the program, by the document -/
inductive ParseP (s : List UInt8) : Out → Prop where
  | long (h : 512 < s.length) : ParseP s (.no 512)
  | bad (h : s.length ≤ 512) (hb : (lex s 0).kind = .bad) : ParseP s (.no (lex s 0).at_)
  | none (h : s.length ≤ 512) (he : (lex s 0).kind = .ended) : ParseP s (.ok none)
  | fail {a : Nat} (h : s.length ≤ 512) (hb : (lex s 0).kind ≠ .bad) (he : (lex s 0).kind ≠ .ended) (hr : Reads (lang s) true .any 0 0 (.fail a)) : ParseP s (.no a)
  | more {n : Nd} {p : Nat} (h : s.length ≤ 512) (hb : (lex s 0).kind ≠ .bad) (he : (lex s 0).kind ≠ .ended) (hr : Reads (lang s) true .any 0 0 (.ok n p)) (hp : (lex s p).kind ≠ .ended) : ParseP s (.no (lex s p).at_)
  | ok {n : Nd} {p : Nat} (h : s.length ≤ 512) (hb : (lex s 0).kind ≠ .bad) (he : (lex s 0).kind ≠ .ended) (hr : Reads (lang s) true .any 0 0 (.ok n p)) (hp : (lex s p).kind = .ended) : ParseP s (.ok (some n))
inductive ParseR (s : List UInt8) : Out → Prop where
  | long (h : 512 < s.length) : ParseR s (.no 512)
  | none (h : s.length ≤ 512) (he : (lex s 0).kind = .ended) : ParseR s (.ok none)
  | fail {a : Nat} (h : s.length ≤ 512) (he : (lex s 0).kind ≠ .ended) (hr : Reads (lang s) false .any 0 0 (.fail a)) : ParseR s (.no a)
  | more {n : Nd} {p : Nat} (h : s.length ≤ 512) (he : (lex s 0).kind ≠ .ended) (hr : Reads (lang s) false .any 0 0 (.ok n p)) (hp : (lex s p).kind ≠ .ended) : ParseR s (.no (lex s p).at_)
  | ok {n : Nd} {p : Nat} (h : s.length ≤ 512) (he : (lex s 0).kind ≠ .ended) (hr : Reads (lang s) false .any 0 0 (.ok n p)) (hp : (lex s p).kind = .ended) : ParseR s (.ok (some n))
theorem parse_same {s : List UInt8} {a b : Out} (h : ParseP s a) (k : ParseR s b) : a = b := by
  have same : ∀ {r r'}, (lex s 0).kind ≠ .bad → Reads (lang s) true .any 0 0 r → Reads (lang s) false .any 0 0 r' → r = (lang s).wrap r' := fun hb h k => reads_same (lang_good s) h hb k
  have wrapped : ∀ {n p q m}, Res.ok n p = (lang s).wrap (.ok m q) → n = m ∧ p = q ∧ (lex s q).kind ≠ .bad := by
    intro n p q m h
    simp only [Lang.wrap] at h
    split at h
    · cases h
    · rename_i h1; cases h; exact ⟨rfl, rfl, h1⟩
  have wrapf : ∀ {a q m}, Res.fail a = (lang s).wrap (.ok m q) → (lex s q).kind = .bad ∧ a = (lex s q).at_ := by
    intro n q m h
    simp only [Lang.wrap] at h
    split at h
    · rename_i h1; cases h; exact ⟨h1, rfl⟩
    · cases h
  cases h with
  | long h => cases k with
    | long => rfl
    | _ => omega
  | bad h hb => cases k with
    | long => omega
    | none _ he => rw [hb] at he; cases he
    | fail _ _ hr => have := reads_bad (lang_good s) (p := 0) hb (.inr (.inr rfl)) hr; cases this; rfl
    | more _ _ hr => have := reads_bad (lang_good s) (p := 0) hb (.inr (.inr rfl)) hr; cases this
    | ok _ _ hr => have := reads_bad (lang_good s) (p := 0) hb (.inr (.inr rfl)) hr; cases this
  | none h he => cases k with
    | long => omega
    | none => rfl
    | _ => contradiction
  | fail h hb he hr => cases k with
    | long => omega
    | none => contradiction
    | fail _ _ hr' => have := same hb hr hr'; cases this; rfl
    | more _ _ hr' hp => obtain ⟨h1, rfl⟩ := wrapf (same hb hr hr'); rfl
    | ok _ _ hr' hp => obtain ⟨h1, rfl⟩ := wrapf (same hb hr hr'); rw [hp] at h1; cases h1
  | more h hb he hr hp => cases k with
    | long => omega
    | none => contradiction
    | fail _ _ hr' => have := same hb hr hr'; cases this
    | more _ _ hr' hp => obtain ⟨rfl, rfl, _⟩ := wrapped (same hb hr hr'); rfl
    | ok _ _ hr' hp' => obtain ⟨rfl, rfl, _⟩ := wrapped (same hb hr hr'); contradiction
  | ok h hb he hr hp => cases k with
    | long => omega
    | none => contradiction
    | fail _ _ hr' => have := same hb hr hr'; cases this
    | more _ _ hr' hp' => obtain ⟨rfl, rfl, _⟩ := wrapped (same hb hr hr'); contradiction
    | ok _ _ hr' hp' => obtain ⟨rfl, rfl, _⟩ := wrapped (same hb hr hr'); rfl

/-! ## what it holds of, and its text -/
/-- the document's nodes, each behind what it takes -/
inductive FN where
  | num (field ask : Nat) (n : Int)
  | idt (ask : Nat) (s : List UInt8)
  | not
  | all
  | any
def flat : Nd → List FN
  | .num f k n => [.num f k n]
  | .idt k s => [.idt k s]
  | .not n => flat n ++ [.not]
  | .all a b => flat a ++ flat b ++ [.all]
  | .any a b => flat a ++ flat b ++ [.any]
section
variable (num : Nat → Nat → Int → Bool) (idt : Nat → List UInt8 → Bool)
def holdsOf : Nd → Bool
  | .num f k n => num f k n
  | .idt k s => idt k s
  | .not n => !holdsOf n
  | .all a b => holdsOf a && holdsOf b
  | .any a b => holdsOf a || holdsOf b
/-- the document's stack, the greatest place first; none: it would fall -/
def stepB : List Bool → FN → Option (List Bool)
  | l, .num f k n => some (num f k n :: l)
  | l, .idt k s => some (idt k s :: l)
  | a :: l, .not => some ((!a) :: l)
  | b :: a :: l, .all => some ((a && b) :: l)
  | b :: a :: l, .any => some ((a || b) :: l)
  | _, _ => none
def runB : List Bool → List FN → Option (List Bool)
  | l, [] => some l
  | l, x :: xs => match stepB num idt l x with
    | some l' => runB l' xs
    | none => none
theorem runB_append (xs ys : List FN) : ∀ l, runB num idt l (xs ++ ys) = match runB num idt l xs with | some l' => runB num idt l' ys | none => none := by
  induction xs with
  | nil => intro l; rfl
  | cons x xs ih =>
    intro l
    simp only [List.cons_append, runB]
    cases stepB num idt l x with
    | none => rfl
    | some l' => exact ih l'
theorem runB_flat (n : Nd) : ∀ l, runB num idt l (flat n) = some (holdsOf num idt n :: l) := by
  induction n with
  | num f k n => intro l; rfl
  | idt k s => intro l; rfl
  | not n ih => intro l; rw [flat, runB_append, ih]; rfl
  | all a b iha ihb => intro l; rw [flat, runB_append, runB_append, iha]; simp only []; rw [ihb]; rfl
  | any a b iha ihb => intro l; rw [flat, runB_append, runB_append, iha]; simp only []; rw [ihb]; rfl
end
section
variable (num : Nat → Nat → Int → List UInt8) (idt : Nat → List UInt8 → List UInt8)
def sOr : List UInt8 := [32, 111, 114, 32]
def sAnd : List UInt8 := [32, 97, 110, 100, 32]
def sNot : List UInt8 := [110, 111, 116, 32]
def brk (t : List UInt8) : List UInt8 := 40 :: (t ++ [41])
def rankOf : Nd → Nat
  | .any _ _ => 0
  | .all _ _ => 1
  | _ => 2
/-- the program's -/
def within (r : Nat) (n : Nd) (t : List UInt8) : List UInt8 := if rankOf n < r then brk t else t
def txt : Nd → List UInt8
  | .num f k n => num f k n
  | .idt k s => idt k s
  | .not n => sNot ++ within 2 n (txt n)
  | .all a b => within 1 a (txt a) ++ sAnd ++ within 1 b (txt b)
  | .any a b => txt a ++ sOr ++ txt b
/-- the document's pieces: their texts, and kinds (0 one, 2 and, 3 or) -/
def kindOf (n : Nd) : Nat := match n with | .any _ _ => 3 | .all _ _ => 2 | _ => 0
def stepT : List (List UInt8 × Nat) → FN → Option (List (List UInt8 × Nat))
  | l, .num f k n => some ((num f k n, 0) :: l)
  | l, .idt k s => some ((idt k s, 0) :: l)
  | a :: l, .not => some ((sNot ++ (if a.2 = 2 ∨ a.2 = 3 then brk a.1 else a.1), 0) :: l)
  | b :: a :: l, .all => some (((if a.2 = 3 then brk a.1 else a.1) ++ sAnd ++ (if b.2 = 3 then brk b.1 else b.1), 2) :: l)
  | b :: a :: l, .any => some ((a.1 ++ sOr ++ b.1, 3) :: l)
  | _, _ => none
def runT : List (List UInt8 × Nat) → List FN → Option (List (List UInt8 × Nat))
  | l, [] => some l
  | l, x :: xs => match stepT num idt l x with
    | some l' => runT l' xs
    | none => none
theorem runT_append (xs ys : List FN) : ∀ l, runT num idt l (xs ++ ys) = match runT num idt l xs with | some l' => runT num idt l' ys | none => none := by
  induction xs with
  | nil => intro l; rfl
  | cons x xs ih =>
    intro l
    simp only [List.cons_append, runT]
    cases stepT num idt l x with
    | none => rfl
    | some l' => exact ih l'
theorem within1 (n : Nd) (t : List UInt8) : within 1 n t = if kindOf n = 3 then brk t else t := by cases n <;> rfl
theorem within2 (n : Nd) (t : List UInt8) : within 2 n t = if kindOf n = 2 ∨ kindOf n = 3 then brk t else t := by cases n <;> rfl
theorem runT_flat (n : Nd) : ∀ l, runT num idt l (flat n) = some ((txt num idt n, kindOf n) :: l) := by
  induction n with
  | num f k n => intro l; rfl
  | idt k s => intro l; rfl
  | not n ih => intro l; rw [flat, runT_append, ih]; simp only [runT, stepT, txt, within2]; rfl
  | all a b iha ihb => intro l; rw [flat, runT_append, runT_append, iha]; simp only []; rw [ihb]; simp only [runT, stepT, txt, within1]; rfl
  | any a b iha ihb => intro l; rw [flat, runT_append, runT_append, iha]; simp only []; rw [ihb]; rfl
end
end Go.Proofs.YtkbffgnhiohpcaaDoor.Filt
