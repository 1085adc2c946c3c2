/- Manifests (layer 10): tables and edits that may be. -/
import Derived.Test.YteplpgknnlehnaaFrame
import Derived.Test.YteplpgknnlehnaaBase2
import Derived.Sort.Walk0
import Derived.BigGuardPart
namespace Go.Proofs.Yteplpgknnlehnaa
set_option linter.unusedSimpArgs false
set_option linter.unusedVariables false
open Go.RowKit

theorem ba_toList (l : List UInt8) : (⟨l.toArray⟩ : ByteArray).toList = l := by rw [Lib.toList_data]
/-- texts in their order -/
def leB (a b : List UInt8) : Bool := Op.bytesLess a b || a == b
def ltB (a b : List UInt8) : Bool := Op.bytesLess a b
theorem run_leq_str {P : Program} (w : World) (t : TypeId) (a b : List UInt8) : (binOp .leq t (str a) (str b)).run P w = .ok (.bool (leB a b)) w := by
  rw [binOp_string_leq, ba_toList, ba_toList]; rfl
theorem run_lss_str {P : Program} (w : World) (t : TypeId) (a b : List UInt8) : (binOp .lss t (str a) (str b)).run P w = .ok (.bool (ltB a b)) w := by
  rw [binOp_string_lss, ba_toList, ba_toList]; rfl
theorem run_geq_str {P : Program} (w : World) (t : TypeId) (a b : List UInt8) : (binOp .geq t (str a) (str b)).run P w = .ok (.bool (!ltB a b)) w := by
  rw [binOp_string_geq, ba_toList, ba_toList]; rfl

structure Table where
  num : Nat
  level : Int
  size : Int
  count : Int
  least : List UInt8
  great : List UInt8
deriving DecidableEq
def Table.cells (t : Table) : List Value := [.int .u64 t.num, .int .i64 t.level, .int .i64 t.size, .int .i64 t.count, str t.least, str t.great]
theorem Table.cells_len (t : Table) : t.cells.length = 6 := rfl
theorem Table.one (t : Table) : ∀ u ∈ t.cells, u.oneCell' = true := by simp [Table.cells, Value.oneCell']
/-- what a machine's words can hold -/
def I64 (n : Int) : Prop := -9223372036854775808 ≤ n ∧ n ≤ 9223372036854775807
structure Table.Ok (t : Table) : Prop where
  num : t.num < M64
  level : I64 t.level
  size : I64 t.size
  count : I64 t.count
  least : t.least.length ≤ 1099511627776
  great : t.great.length ≤ 1099511627776

/-- may a text be a key? -/
def mayKey (l : List UInt8) : Bool := !l.isEmpty && decide (l.length ≤ 96)
theorem mayKey_int (l : List UInt8) : mayKey l = (decide (1 ≤ (l.length : Int)) && decide ((l.length : Int) ≤ 96)) := by
  cases l with
  | nil => simp [mayKey]
  | cons a l =>
    have h : decide (1 ≤ ((a :: l).length : Int)) = true := by simp; omega
    rw [h, mayKey]
    simp
    omega
def Table.may (t : Table) : Bool :=
  decide (1 ≤ (t.num : Int)) && decide ((t.num : Int) ≤ 4611686018427387904) && decide (0 ≤ t.level) && decide (t.level < 4) && decide (1 ≤ t.size) && decide (t.size ≤ 1073741824) && decide (1 ≤ t.count) && decide (t.count ≤ 1073741824) &&
    mayKey t.least && mayKey t.great && leB t.least t.great

set_option maxRecDepth 100000 in
set_option maxHeartbeats 800000 in
theorem key_any (l : List UInt8) (w : World) (hl : l.length ≤ 1099511627776) :
    Calls Try.prog 91 #[str l] w fun e w' => e = .returned (.bool (mayKey l)) ∧ w' = w := by
  go_enter Try.func91, Try.ntmps91
  go_wp2
  all_goals go_ret
  all_goals refine ⟨?_, rfl⟩
  all_goals simp [mayKey]
  all_goals grind [List.length_eq_zero_iff]

set_option maxRecDepth 100000 in
set_option maxHeartbeats 8000000 in
theorem mayTable_any (t : Table) (h : t.Ok) (w : World) :
    Calls Try.prog 78 #[.agg t.cells.toArray] w fun e w' => e = .returned (.bool t.may) ∧ Ext w w' := by
  obtain ⟨h1, h2, h3, h4, h5, h6⟩ := h
  obtain ⟨n, lv, sz, ct, a, b⟩ := t
  dsimp only [Table.cells] at *
  unfold I64 M64 at *
  have HM : Hid (∀ x : Bool, x = (decide (1 ≤ (n : Int)) && decide ((n : Int) ≤ 4611686018427387904) && decide (0 ≤ lv) && decide (lv < 4) && decide (1 ≤ sz) && decide (sz ≤ 1073741824) && decide (1 ≤ ct) && decide (ct ≤ 1073741824) && mayKey a && mayKey b && leB a b) →
    x = (⟨n, lv, sz, ct, a, b⟩ : Table).may) := fun x hx => hx
  go_enter Try.func78, Try.ntmps78
  go_wp2_with (go_at_call 91; refine (key_any _ _ (by assumption)).mono ?_; rintro e w1 ⟨rfl, rfl⟩)
  all_goals go_ret
  all_goals refine ⟨congrArg (fun b => Ending.returned (.bool b)) (HM.out _ ?_), by (repeat (first | exact Below.refl _ _ | refine Ext.trans' ?_ (Ext.al _ _) | refine Ext.trans' ?_ (Ext.dr _) | refine Ext.trans' ?_ (by assumption)))⟩
  all_goals (simp [*, leB] <;> (intros; omega))
set_option maxRecDepth 100000 in
set_option maxHeartbeats 800000 in
theorem mayTable_ref (t : Table) (h : t.Ok) (w : World) :
    Calls Try.prog 82 #[.agg t.cells.toArray] w fun e w' => e = .returned (.bool t.may) ∧ Ext w w' := by
  obtain ⟨h1, h2, h3, h4, h5, h6⟩ := h
  obtain ⟨n, lv, sz, ct, a, b⟩ := t
  dsimp only [Table.cells] at *
  unfold I64 M64 at *
  have HM : Hid (∀ x : Bool, x = (decide (1 ≤ (n : Int)) && decide ((n : Int) ≤ 4611686018427387904) && decide (0 ≤ lv) && decide (lv < 4) && decide (1 ≤ sz) && decide (sz ≤ 1073741824) && decide (1 ≤ ct) && decide (ct ≤ 1073741824) &&
      (decide (1 ≤ (a.length : Int)) && decide ((a.length : Int) ≤ 96)) && (decide (1 ≤ (b.length : Int)) && decide ((b.length : Int) ≤ 96)) && leB a b) →
    x = (⟨n, lv, sz, ct, a, b⟩ : Table).may) := fun x hx => by rw [hx, Table.may, mayKey_int, mayKey_int]
  go_enter Try.func82, Try.ntmps82
  (iterate 12 (first | go_values | go_skip | go_guarded | go_step | go_upon | go_in | go_back)); simp only [List.append_eq, List.cons_append, List.nil_append]
  go_wp2
  all_goals go_ret
  all_goals refine ⟨congrArg (fun b => Ending.returned (.bool b)) (HM.out _ ?_), by (repeat (first | exact Below.refl _ _ | refine Ext.trans' ?_ (Ext.al _ _) | refine Ext.trans' ?_ (Ext.dr _) | refine Ext.trans' ?_ (by assumption)))⟩
  all_goals (simp [*, leB] <;> (intros; omega))
end Go.Proofs.Yteplpgknnlehnaa
