/- Parts of this work, one behind the other: Rft. -/
import Derived.Test.YtkblkdnihppmnaaGreatDoorPkv40
import Derived.Test.YtkblkdnihppmnaaGreatDoorPkv1
/- Filters (layer 21): the document's Empty (walk); what a combined text is read as (plain). -/
namespace Go.Proofs.YtkblkdnihppmnaaGreatDoor
set_option linter.unusedSimpArgs false
set_option linter.unusedVariables false
open Go.RowKit Res Filt

theorem blank_all : ∀ (l : List UInt8), l.drop (runLen isBlank l) = [] ↔ l.all isBlank = true
  | [] => by simp [runLen]
  | c :: l => by
    unfold runLen
    by_cases h : isBlank c = true
    · rw [if_pos h, List.drop_succ_cons, blank_all l]; simp [h]
    · rw [if_neg h]; simp [h]
theorem lex_ended (s : List UInt8) : (lex s 0).kind = .ended ↔ s.all isBlank = true := by
  unfold lex startOf
  show (lexRest _).1 = .ended ↔ _
  rw [lexRest_end, List.drop_zero, Nat.zero_add]
  exact blank_all s
theorem parse_none_all {s : List UInt8} (h : ParseP s (.ok none)) : s.all isBlank = true := by
  cases h with
  | none _ he => exact (lex_ended s).1 he
theorem parse_some_all {s : List UInt8} {n : Nd} (h : ParseP s (.ok (some n))) : s.all isBlank = false := by
  cases h with
  | ok _ _ he => cases hb : s.all isBlank with
    | true => exact absurd ((lex_ended s).2 hb) he
    | false => rfl
/-- a text that is not blank, read by the document: a filter, or refused -/
theorem ref_some {U : List UInt8} {o : Filt.Out} (h : ParseR U o) (hb : U.all isBlank = false) : (∃ a, o = .no a) ∨ ∃ n q, o = .ok (some n) ∧ Reads (lang U) false .any 0 0 (.ok n q) := by
  cases h with
  | long h => exact .inl ⟨_, rfl⟩
  | none _ he => rw [(lex_ended U).1 he] at hb; cases hb
  | fail _ _ _ => exact .inl ⟨_, rfl⟩
  | more _ _ _ _ => exact .inl ⟨_, rfl⟩
  | ok _ _ hr _ => exact .inr ⟨_, _, rfl, hr⟩
/-- the four texts of FilterLogic, and what a run is that they hold of -/
def four (s t : List UInt8) (k : Nat) : List UInt8 := match k with | 0 => tAnd s t | 1 => tOr s t | 2 => tNotOr s t | _ => tNotAnd s t
def fourB (p q : Bool) (k : Nat) : Bool := match k with | 0 => p && q | 1 => p || q | 2 => !(p && q) | _ => !(p && q)
theorem four_blank (s t : List UInt8) (k : Nat) : (four s t k).all isBlank = false := by
  unfold four
  have h1 : isBlank 40 = false := by decide
  have h2 : isBlank 110 = false := by decide
  split <;> simp [tAnd, tOr, tNotOr, tNotAnd, h1, h2]
set_option maxRecDepth 100000 in
set_option maxHeartbeats 800000 in
theorem ref_empty (s : List UInt8) (hs : s.length ≤ 140737488355328) (w : World) : Calls Tryz.prog 10 #[str s] w fun e w' => e = .returned (.bool (s.all isBlank)) ∧ w = w' := by
  have M := Mem.start w
  obtain ⟨b, hb⟩ : ∃ b, s.all isBlank = b := ⟨_, rfl⟩
  rw [hb]
  have HS : Hid ((s.drop 0).all isBlank = b) := Lib.hid hb
  clear hb
  go_enter Tryz.func10, Tryz.ntmps10
  (try dsimp only); (repeat (first | (first | fail) | go_values | go_skip | go_guarded | go_step | go_upon))
  go_loop [3] (fun x => ∃ m : Nat, m ≤ s.length ∧ x = fi (m : Int) ∧ Hid ((s.drop m).all isBlank = b)) (fun x => s.length - (intOf x).toNat)
  case atStart => exact ⟨0, by omega, by go_num, HS⟩
  case round =>
    obtain ⟨m, hm, rfl, hh⟩ := hrel
    clear HS
    rcases Nat.lt_or_ge m s.length with hml | hml
    · obtain ⟨c, hc⟩ : ∃ c, s[m]? = some c := ⟨_, List.getElem?_eq_getElem hml⟩
      have q1 : decide ((m : Int) < (s.length : Int)) = true := by simp; omega
      have hwm : IntKind.i64.wrap ((m : Int) + 1) = (m : Int) + 1 := IntWalk.i64_in _ (by omega)
      have hdr : s.drop m = c :: s.drop (m + 1) := by
        rw [List.drop_eq_getElem_cons hml]
        congr 1
        rw [List.getElem?_eq_getElem hml] at hc
        exact Option.some.inj hc
      have HC := Lib.hid hc
      by_cases hcb : isBlank c = true
      · have q2 : ((c.toNat : Int) != 32) = false := by have := of_decide_eq_true hcb; simp; omega
        have HN : Hid ((s.drop (m + 1)).all isBlank = b) := Lib.hid (by
          have h := hh.out
          rw [hdr, List.all_cons, hcb, Bool.true_and] at h
          exact h)
        clear hc hdr hcb hh
        (try dsimp only); (repeat (first | (first | ((with_reducible refine on_indexT ?_); refine wp_indexT _ _ _ rfl Tryz.underlying9 s rfl _ m (by first | rfl | (simp; done)) c HC.out ?_; (first | ((with_reducible refine fastK Tryz.prog rfl ?_); go_big_move) | (with_reducible refine fastN rfl ?_) | skip))) | go_values | go_skip | go_guarded | go_step | go_upon))
        exact ⟨⟨m + 1, by omega, by go_num, HN⟩, by simp [intOf]; omega⟩
      · have q2 : ((c.toNat : Int) != 32) = true := by
          have : ¬ c.toNat = 32 := fun e => hcb (by unfold isBlank; exact decide_eq_true e)
          simp; omega
        have HN : Hid (b = false) := Lib.hid (by
          have h := hh.out
          rw [hdr, List.all_cons] at h
          simp only [Bool.not_eq_true] at hcb
          rw [hcb, Bool.false_and] at h
          exact h.symm)
        clear hc hdr hcb hh
        (try dsimp only); (repeat (first | (first | ((with_reducible refine on_indexT ?_); refine wp_indexT _ _ _ rfl Tryz.underlying9 s rfl _ m (by first | rfl | (simp; done)) c HC.out ?_; (first | ((with_reducible refine fastK Tryz.prog rfl ?_); go_big_move) | (with_reducible refine fastN rfl ?_) | skip))) | go_values | go_skip | go_guarded | go_step | go_upon))
        rw [HN.out]
        exact ret_m1 rfl (Out.tmp rfl) rfl ⟨rfl, rfl⟩
    · have q1 : decide ((m : Int) < (s.length : Int)) = false := by simp; omega
      have HN : Hid (b = true) := Lib.hid (by
        have h := hh.out
        rw [List.drop_eq_nil_of_le hml] at h
        exact h.symm)
      clear hh
      (try dsimp only); (repeat (first | (first | fail) | go_values | go_skip | go_guarded | go_step | go_upon))
      rw [HN.out]
      exact ret_m1 rfl (Out.tmp rfl) rfl ⟨rfl, rfl⟩
end Go.Proofs.YtkblkdnihppmnaaGreatDoor
