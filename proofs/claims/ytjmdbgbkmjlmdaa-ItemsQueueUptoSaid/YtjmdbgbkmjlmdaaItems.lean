/- Items (layer 20), as plain functions: whose turn it is in a queue, where runs are. No program in sight. -/
import Derived.Test.YtjmdbgbkmjlmdaaActs
namespace Go.Proofs.Ytjmdbgbkmjlmdaa
set_option linter.unusedSimpArgs false
set_option linter.unusedVariables false
open Go.RowKit

/-- a run, as far as its cells tell; its activities in full -/
structure RunD where
  number : Int
  typ : Int
  status : Int
  id : List UInt8
  begun : Int
  ended : Int
  deadline : Int
  parent : Int
  event : Int
  seen : Int
  value : Int
  a0 : Int
  a1 : Int
  a2 : Int
  a3 : Int
  eA : Option Addr
  eN : Nat
  eC : Nat
  aA : Option Addr
  aC : Nat
  acts : List ActV
  tA : Option Addr
  tN : Nat
  tC : Nat
  kA : Option Addr
  kN : Nat
  kC : Nat
  uA : Option Addr
  uN : Nat
  uC : Nat
def RunD.cells (r : RunD) : List Value := [iv r.number, iv r.typ, iv r.status, str r.id, iv r.begun, iv r.ended, iv r.deadline, iv r.parent, iv r.event, iv r.seen, iv r.value, iv r.a0, iv r.a1, iv r.a2, iv r.a3, .slice r.eA r.eN r.eC, .slice r.aA r.acts.length r.aC, .slice r.tA r.tN r.tC, .slice r.kA r.kN r.kC, .slice r.uA r.uN r.uC]
/-- a program, as far as its cells tell; its options in full -/
structure ProgD where
  funcs : Value
  oA : Option Addr
  oC : Nat
  opts : List OptV
def ProgD.cells (p : ProgD) : List Value := [p.funcs, .slice p.oA p.opts.length p.oC]
structure ItemV where
  at_ : Int
  kind : Int
  run : Int
  event : Int
  late : Int
deriving DecidableEq
def ItemV.cells (x : ItemV) : List Value := [iv x.at_, iv x.kind, iv x.run, iv x.event, iv x.late]
def noItem : ItemV := ⟨0, 0, 0, 0, 0⟩
def noOpt : OptV := ⟨0, 0, 0, 0, 0, 0, 0, 0, 0, 0, 0⟩

/-- the options of an activity of a run -/
def optsOf (ps : List ProgD) (typ opts : Int) : OptV :=
  if typ < 0 ∨ (ps.length : Int) ≤ typ then noOpt else
  match ps[typ.toNat]? with
  | none => noOpt
  | some p => if opts < 0 ∨ (p.opts.length : Int) ≤ opts then noOpt else (p.opts[opts.toNat]?).getD noOpt

/-- does an item stand ahead of another one? -/
def aheadI (a b : ItemV) : Bool :=
  if a.at_ ≠ b.at_ then decide (a.at_ < b.at_) else
  if a.kind ≠ b.kind then decide (a.kind < b.kind) else
  if a.run ≠ b.run then decide (a.run < b.run) else
  if a.event ≠ b.event then decide (a.event < b.event) else decide (a.late < b.late)
def cmpI (x y : Int) : Int := if x < y then -1 else if y < x then 1 else 0
def orAll : List Int → Int
  | [] => 0
  | x :: xs => if x ≠ 0 then x else orAll xs
def risesI (a b : ItemV) : Int := orAll [cmpI a.at_ b.at_, cmpI a.kind b.kind, cmpI a.run b.run, cmpI a.event b.event, cmpI a.late b.late]
theorem cmpI_self (x : Int) : cmpI x x = 0 := by simp [cmpI]
theorem risesI_self (a : ItemV) : risesI a a = 0 := by simp [risesI, orAll, cmpI_self]
theorem orAll_cmp (x y : Int) (l : List Int) (b : Bool) (h : decide (0 ≤ orAll l) = !b) : decide (0 ≤ orAll (cmpI x y :: l)) = !(if x ≠ y then decide (x < y) else b) := by
  unfold orAll cmpI
  rcases Int.lt_trichotomy x y with h1 | h1 | h1
  · have h2 : x ≠ y := by omega
    simp [h1, h2]
  · subst h1; simp [h]
  · have h2 : x ≠ y := by omega
    have h3 : ¬ x < y := by omega
    simp [h1, h2, h3]
theorem risesI_ahead (a b : ItemV) : decide (0 ≤ risesI a b) = !aheadI a b := by
  unfold risesI aheadI
  refine orAll_cmp _ _ _ _ (orAll_cmp _ _ _ _ (orAll_cmp _ _ _ _ (orAll_cmp _ _ _ _ ?_)))
  unfold orAll cmpI
  rcases Int.lt_trichotomy a.late b.late with h1 | h1 | h1
  · simp [h1]
  · simp [h1, orAll]
  · have h3 : ¬ a.late < b.late := by omega
    simp [h1, h3]

structure QS where
  run : Int
  place : Int
  is : Bool
  first : ItemV
def itemOf (since number event : Int) : ItemV := ⟨since, 0, number, event, 0⟩
def qhit (ps : List ProgD) (q : Int) (r : RunD) (a : ActV) (st : QS) : Bool :=
  decide (r.status = 1) && (decide (a.phase = 1) && (decide ((optsOf ps r.typ a.opts).queue = q) && (!st.is || aheadI (itemOf a.since r.number a.event) st.first)))
def qstep (ps : List ProgD) (q : Int) (i : Nat) (r : RunD) (k : Nat) (a : ActV) (st : QS) : QS := if qhit ps q r a st = true then ⟨i, k, true, itemOf a.since r.number a.event⟩ else st
def qacts (ps : List ProgD) (q : Int) (i : Nat) (r : RunD) : Nat → List ActV → QS → QS
  | _, [], st => st
  | k, a :: l, st => qacts ps q i r (k + 1) l (qstep ps q i r k a st)
def qruns (ps : List ProgD) (q : Int) : Nat → List RunD → QS → QS
  | _, [], st => st
  | i, r :: l, st => qruns ps q (i + 1) l (qacts ps q i r 0 r.acts st)
def noQ : QS := ⟨0, 0, false, noItem⟩
def queuedOf (ps : List ProgD) (q : Int) (rs : List RunD) : QS := qruns ps q 0 rs noQ
theorem qacts_closed {ps : List ProgD} {q : Int} {i : Nat} {r : RunD} (h : r.status ≠ 1) : ∀ (l : List ActV) (k : Nat) (st : QS), qacts ps q i r k l st = st
  | [], _, _ => rfl
  | a :: l, k, st => by
    unfold qacts
    rw [show qstep ps q i r k a st = st by unfold qstep qhit; simp [h]]
    exact qacts_closed h l _ _
theorem qstep_no1 {ps : List ProgD} {q : Int} {i k : Nat} {r : RunD} {a : ActV} {st : QS} (h : a.phase ≠ 1) : qstep ps q i r k a st = st := by unfold qstep qhit; simp [h]
theorem qstep_no2 {ps : List ProgD} {q : Int} {i k : Nat} {r : RunD} {a : ActV} {st : QS} (h : (optsOf ps r.typ a.opts).queue ≠ q) : qstep ps q i r k a st = st := by unfold qstep qhit; simp [h]
theorem qstep_no3 {ps : List ProgD} {q : Int} {i k : Nat} {r : RunD} {a : ActV} {st : QS} (h : st.is = true) (h2 : aheadI (itemOf a.since r.number a.event) st.first = false) : qstep ps q i r k a st = st := by unfold qstep qhit; simp [h, h2]
theorem qstep_yes {ps : List ProgD} {q : Int} {i k : Nat} {r : RunD} {a : ActV} {st : QS} (h0 : r.status = 1) (h1 : a.phase = 1) (h2 : (optsOf ps r.typ a.opts).queue = q) (h3 : st.is = false ∨ aheadI (itemOf a.since r.number a.event) st.first = true) : qstep ps q i r k a st = ⟨i, k, true, itemOf a.since r.number a.event⟩ := by
  unfold qstep qhit
  rcases h3 with h3 | h3 <;> simp [h0, h1, h2, h3]
theorem qruns_step {ps : List ProgD} {q : Int} {rs : List RunD} {i : Nat} {r : RunD} {st : QS} (hr : rs[i]? = some r) : qruns ps q i (rs.drop i) st = qruns ps q (i + 1) (rs.drop (i + 1)) (qacts ps q i r 0 r.acts st) := by
  have hk := List.getElem?_eq_some_iff.1 hr
  rw [List.drop_eq_getElem_cons hk.1, hk.2]
  rfl
theorem qacts_step {ps : List ProgD} {q : Int} {i k : Nat} {r : RunD} {a : ActV} {st : QS} (ha : r.acts[k]? = some a) : qacts ps q i r k (r.acts.drop k) st = qacts ps q i r (k + 1) (r.acts.drop (k + 1)) (qstep ps q i r k a st) := by
  have hk := List.getElem?_eq_some_iff.1 ha
  rw [List.drop_eq_getElem_cons hk.1, hk.2]
  rfl
/-- the place of the newest run of a name -/
def newStep (rs : List RunD) (id : List UInt8) (i : Nat) (r : RunD) (at_ : Int) : Int :=
  if r.id = id ∧ (at_ < 0 ∨ ((rs[at_.toNat]?).map (·.number)).getD 0 < r.number) then i else at_
def newAll (rs : List RunD) (id : List UInt8) : Nat → List RunD → Int → Int
  | _, [], at_ => at_
  | i, r :: l, at_ => newAll rs id (i + 1) l (newStep rs id i r at_)
def newestOf (rs : List RunD) (id : List UInt8) : Int := newAll rs id 0 rs (-1)
/-- the place of a run's number -/
def placeFrom (n : Int) : Nat → List RunD → Int
  | _, [] => -1
  | i, r :: l => if r.number = n then i else placeFrom n (i + 1) l
def placeOf (rs : List RunD) (n : Int) : Int := placeFrom n 0 rs

/-! ## who is handed out next is queued, and none of that queue was queued earlier -/
/-- is this activity queued in that queue? -/
def mine (ps : List ProgD) (q : Int) (r : RunD) (a : ActV) : Prop := r.status = 1 ∧ a.phase = 1 ∧ (optsOf ps r.typ a.opts).queue = q
theorem ahead_since {x y : ItemV} (h : aheadI x y = false) : y.at_ ≤ x.at_ := by
  unfold aheadI at h
  split at h
  · simp at h; omega
  · omega
theorem ahead_since' {x y : ItemV} (h : aheadI x y = true) : x.at_ ≤ y.at_ := by
  unfold aheadI at h
  split at h
  · simp at h; omega
  · omega
/-- what is known of the choice, once the ones that D names were looked at -/
structure Best (ps : List ProgD) (q : Int) (rs : List RunD) (D : Nat → Nat → Prop) (st : QS) : Prop where
  nobody : st.is = false → ∀ n m r a, D n m → rs[n]? = some r → r.acts[m]? = some a → ¬ mine ps q r a
  chosen : st.is = true → ∃ (n m : Nat) (r : RunD) (a : ActV), st.run = n ∧ st.place = m ∧ rs[n]? = some r ∧ r.acts[m]? = some a ∧ mine ps q r a ∧ st.first = itemOf a.since r.number a.event
  least : st.is = true → ∀ n m r a, D n m → rs[n]? = some r → r.acts[m]? = some a → mine ps q r a → st.first.at_ ≤ a.since
theorem Best.step {ps : List ProgD} {q : Int} {rs : List RunD} {i k : Nat} {r : RunD} {a : ActV} {st : QS} {D : Nat → Nat → Prop} (h : Best ps q rs D st) (hr : rs[i]? = some r) (ha : r.acts[k]? = some a) :
    Best ps q rs (fun n m => D n m ∨ (n = i ∧ m = k)) (qstep ps q i r k a st) := by
  unfold qstep
  by_cases hh : qhit ps q r a st = true
  · rw [if_pos hh]
    simp only [qhit, Bool.and_eq_true, decide_eq_true_eq] at hh
    obtain ⟨h1, h2, h3, h4⟩ := hh
    refine ⟨(fun h => by cases h), fun _ => ⟨i, k, r, a, rfl, rfl, hr, ha, ⟨h1, h2, h3⟩, rfl⟩, fun _ n m r' a' hD hr' ha' hm => ?_⟩
    rcases hD with hD | ⟨rfl, rfl⟩
    · show a.since ≤ a'.since
      cases his : st.is with
      | false => exact absurd hm (h.nobody his n m r' a' hD hr' ha')
      | true =>
        rw [his] at h4
        have h5 := ahead_since' (by simpa using h4)
        have h6 := h.least his n m r' a' hD hr' ha' hm
        have h7 : (itemOf a.since r.number a.event).at_ = a.since := rfl
        omega
    · rw [hr] at hr'; cases hr'; rw [ha] at ha'; cases ha'; exact Int.le_refl _
  · rw [if_neg hh]
    have hh' : mine ps q r a → st.is = true ∧ aheadI (itemOf a.since r.number a.event) st.first = false := fun ⟨h1, h2, h3⟩ => by
      simp only [qhit, h1, h2, h3, decide_true, Bool.true_and, Bool.not_eq_true, Bool.or_eq_false_iff, Bool.not_eq_false'] at hh
      exact hh
    refine ⟨fun his n m r' a' hD hr' ha' hm => ?_, h.chosen, fun his n m r' a' hD hr' ha' hm => ?_⟩
    · rcases hD with hD | ⟨rfl, rfl⟩
      · exact h.nobody his n m r' a' hD hr' ha' hm
      · rw [hr] at hr'; cases hr'; rw [ha] at ha'; cases ha'
        rw [(hh' hm).1] at his; cases his
    · rcases hD with hD | ⟨rfl, rfl⟩
      · exact h.least his n m r' a' hD hr' ha' hm
      · rw [hr] at hr'; cases hr'; rw [ha] at ha'; cases ha'
        exact ahead_since (hh' hm).2
theorem Best.mono {ps : List ProgD} {q : Int} {rs : List RunD} {st : QS} {D D' : Nat → Nat → Prop} (h : Best ps q rs D st) (hD : ∀ n m, D' n m → D n m) : Best ps q rs D' st :=
  ⟨fun his n m r a hd => h.nobody his n m r a (hD n m hd), h.chosen, fun his n m r a hd => h.least his n m r a (hD n m hd)⟩
theorem Best.acts {ps : List ProgD} {q : Int} {rs : List RunD} {i : Nat} {r : RunD} (hr : rs[i]? = some r) : ∀ (l : List ActV) (k : Nat) (st : QS) (D : Nat → Nat → Prop), r.acts.drop k = l → Best ps q rs D st →
    Best ps q rs (fun n m => D n m ∨ (n = i ∧ k ≤ m)) (qacts ps q i r k l st)
  | [], k, st, D, hl, h => by
    have hk : r.acts.length ≤ k := by simpa using hl
    unfold qacts
    refine ⟨fun his n m r' a' hD hr' ha' hm => ?_, h.chosen, fun his n m r' a' hD hr' ha' hm => ?_⟩
    all_goals
      rcases hD with hD | ⟨rfl, hkm⟩
      · first | exact h.nobody his n m r' a' hD hr' ha' hm | exact h.least his n m r' a' hD hr' ha' hm
      · rw [hr] at hr'; cases hr'
        have := (List.getElem?_eq_some_iff.1 ha').1
        omega
  | a :: l, k, st, D, hl, h => by
    have ha : r.acts[k]? = some a := by
      have := congrArg (fun x => x[0]?) hl
      simpa using this
    have hl' : r.acts.drop (k + 1) = l := by
      have := congrArg List.tail hl
      simpa using this
    unfold qacts
    refine (Best.acts hr l (k + 1) _ _ hl' (h.step hr ha)).mono fun n m hd => ?_
    rcases hd with hd | ⟨rfl, hd⟩
    · exact .inl (.inl hd)
    · by_cases he : m = k
      · exact .inl (.inr ⟨rfl, he⟩)
      · exact .inr ⟨rfl, by omega⟩
theorem Best.runs {ps : List ProgD} {q : Int} {rs : List RunD} : ∀ (l : List RunD) (i : Nat) (st : QS) (D : Nat → Nat → Prop), rs.drop i = l → Best ps q rs D st →
    Best ps q rs (fun n m => D n m ∨ i ≤ n) (qruns ps q i l st)
  | [], i, st, D, hl, h => by
    have hk : rs.length ≤ i := by simpa using hl
    unfold qruns
    refine ⟨fun his n m r' a' hD hr' ha' hm => ?_, h.chosen, fun his n m r' a' hD hr' ha' hm => ?_⟩
    all_goals
      rcases hD with hD | hkm
      · first | exact h.nobody his n m r' a' hD hr' ha' hm | exact h.least his n m r' a' hD hr' ha' hm
      · have := (List.getElem?_eq_some_iff.1 hr').1
        omega
  | r :: l, i, st, D, hl, h => by
    have hr : rs[i]? = some r := by
      have := congrArg (fun x => x[0]?) hl
      simpa using this
    have hl' : rs.drop (i + 1) = l := by
      have := congrArg List.tail hl
      simpa using this
    unfold qruns
    refine (Best.runs l (i + 1) _ _ hl' (Best.acts hr r.acts 0 st D (by simp) h)).mono fun n m hd => ?_
    rcases hd with hd | hd
    · exact .inl (.inl hd)
    · by_cases he : n = i
      · exact .inl (.inr ⟨he, Nat.zero_le _⟩)
      · exact .inr (by omega)
theorem queued_best (ps : List ProgD) (q : Int) (rs : List RunD) : Best ps q rs (fun _ _ => True) (queuedOf ps q rs) :=
  (Best.runs rs 0 noQ (fun _ _ => False) (by simp) ⟨fun _ _ _ _ _ h => h.elim, (fun h => by cases h), (fun h => by cases h)⟩).mono fun _ _ _ => .inr (Nat.zero_le _)
end Go.Proofs.Ytjmdbgbkmjlmdaa
