/- The statement ActsLives: for all options, every activity and whatever is done the law returns true, and the arguments read as they did. -/
import Derived.Test.YtjmdbgbkmjlmdaaActsLives0
import Derived.Test.YtjmdbgbkmjlmdaaFlat2
import Derived.Test.YtjmdbgbkmjlmdaaRows
import Derived.JoinedCond
import Derived.ChangeOld
import Derived.OpenShut
import Derived.Test.YtjmdbgbkmjlmdaaChecked
namespace Go.Proofs.Ytjmdbgbkmjlmdaa.actsLives
set_option linter.unusedSimpArgs false
set_option linter.unusedVariables false
open Go.ChangeShapes Go.WideShapes Go.ChangeAt Go.RowKit Go.Deep
set_option linter.unusedVariables false

theorem own : ownKnob Try.prog.godebug = none := by kernel_rfl
theorem laidOut : laidOutB Try.prog = true := by kernel_rfl

theorem rowR_facts {α : Type} {f : α → List Value} {p : α → Prop} {w : World} {lo hi sz : Nat} {A : Option Addr} {l : List α} (h : RowR (fun y cs => cs = f y ∧ p y) w lo hi sz A l) : RowR (fun y cs => cs = f y) w lo hi sz A l ∧ ∀ y ∈ l, p y := by
  obtain ⟨prs, rfl, hp, hr⟩ := h
  refine ⟨⟨prs, rfl, fun q hq => ⟨(hp q hq).1.1, (hp q hq).2⟩, hr⟩, fun y hy => ?_⟩
  obtain ⟨q, hq, rfl⟩ := List.mem_map.1 hy
  exact (hp q hq).1.2
set_option maxRecDepth 100000 in
theorem contract (H : Type) (enc : TypeId × Value → H) (W : World) (base : Nat) (args : Array Value) (ds gs : List (DataW H)) (before : List MemPlace)
    (hval : ∀ (j : Nat) t v, Try.f6.params[j]? = some t → args[j]? = some v → Value.okWide Try.prog W .any base t v)
    (hW : DataW.Whole enc Try.prog Try.f6.params.toList Rows.actsLivesSpec.vars false W args.toList ds gs before) (hk : Rows.uptoSmall H (ds ++ gs) = true) :
    Calls Try.prog 6 args W fun e W' => ∃ v, e = .returned v ∧ Rows.actsLivesSpec.post enc Try.prog Try.f6 false true false false W args v W' := by
  have hW' := hW
  obtain ⟨p, q, hA0, hV, rfl, hfz, hnd⟩ := hW
  have hA : DataW.TrodAll enc Try.prog W 0 (fun _ => true) true Try.f6.params.toList args.toList ds p := hA0
  rw [Try.params6] at hA hval
  obtain ⟨v0, vs0, d0, ds0, p0, q0, hargs, rfl, rfl, h0, r0⟩ := trodAll_cons hA
  obtain ⟨v1, vs1, d1, ds1, p1, q1, rfl, rfl, rfl, h1, r1⟩ := trodAll_cons r0
  obtain ⟨rfl, rfl, rfl⟩ := trodAll_nil r1
  obtain rfl : args = #[v0, v1] := by cases args; simp_all
  obtain ⟨rfl, rfl⟩ := trodVars_none hV
  have k0 := h0
  have k1 := h1
  have lt0 : ∀ x ∈ p0, x.block < W.heap.size := by obtain ⟨m, hm⟩ := k0; exact DataW.trod_lt m _ _ _ hm
  have lt1 : ∀ x ∈ p1, x.block < W.heap.size := by obtain ⟨m, hm⟩ := k1; exact DataW.trod_lt m _ _ _ hm
  have fl0 : flatR Try.prog 42 11 = true := by kernel_rfl
  have fl1 : flatR Try.prog 46 5 = true := by kernel_rfl
  obtain ⟨c0, rfl, -⟩ := okWide_struct (flatR_under fl0) (hval 0 42 v0 rfl rfl)
  obtain ⟨f0, hf0⟩ := h0
  obtain ⟨f1, hf1⟩ := h1
  obtain ⟨x0, e0, l0, -⟩ := read_flat fl0 hf0
  obtain ⟨a0, a1, a2, a3, a4, a5, a6, a7, a8, a9, a10, rfl⟩ := list11 l0
  obtain rfl : c0 = #[.int .i64 a0, .int .i64 a1, .int .i64 a2, .int .i64 a3, .int .i64 a4, .int .i64 a5, .int .i64 a6, .int .i64 a7, .int .i64 a8, .int .i64 a9, .int .i64 a10] := Array.ext' e0
  obtain ⟨sa, slen, scap, rfl⟩ := okWide_slice Try.underlying74 (hval 1 74 v1 rfl rfl)
  obtain ⟨A, c, l, e1, hR, -, -, hbk, -⟩ := read_slice (sz := 5) (fun (y : StepV) cs => cs = y.cells ∧ I64 y.value) (fun _ => 0) Try.underlying74 (by kernel_rfl) (by decide) (fun fuel cs x h => by
    obtain ⟨xs, ex, lx, ix⟩ := read_flat fl1 h
    obtain ⟨z0, z1, z2, z3, z4, rfl⟩ := list5' lx
    exact ⟨⟨z0, z1, z2, z3, z4⟩, ⟨ex, ix z3 (by simp)⟩, Nat.zero_le _⟩) hf1
  obtain ⟨hR, hI⟩ := rowR_facts hR
  have hrow := hR.plain
  have e2 : (.slice sa slen scap : Value) = .slice A l.length c := by
    have h : [(.slice sa slen scap : Value)] = [.slice A l.length c] := e1
    simpa using h
  injection e2 with g1 g2 g3
  subst g1 g2 g3
  have hlen : l.length ≤ 1048576 := by
    have h2 : Rows.uptoBulk d1 ≤ 1048576 := Nat.le_trans (bulk_part (by simp)) (bulk_small hk)
    dsimp only at hbk
    omega
  clear hA0
  refine (actsLives_walk ⟨a0, a1, a2, a3, a4, a5, a6, a7, a8, a9, a10⟩ l hI hrow (Nat.le_refl _) hlen).mono fun e W' ⟨he, bel⟩ => ?_
  subst he
  exact ⟨_, rfl, _, _, _, [], _, [], hW', trodAll_mk1 (shut_bool Try.underlying4 _), (trodAll_cons_mk (Below.trod laidOut (by kernel_rfl) (of_decide_eq_true (by kernel_rfl)) k0 bel lt0) (trodAll_cons_mk (Below.trod laidOut (by kernel_rfl) (of_decide_eq_true (by kernel_rfl)) k1 bel lt1) trodAll_mk0)), rfl, bel.frame _, fun h => by cases h⟩

set_option maxRecDepth 100000 in
theorem lifted (os : Os) (started : os.Started) (H : Type) (enc : TypeId × Value → H) (F : Stop.Interp) :
    ReturnsInHanded {} Try.checked os 6 .any ((Rows.OpenSpec.upto Rows.actsLivesSpec).pre6 enc Try.prog Try.f6 Rows.actsLivesUptoRow.domain false) (((Rows.OpenSpec.upto Rows.actsLivesSpec).at F).post enc Try.prog Try.f6 false true false false) := by
  refine returnsInHanded_of_cond (C := Try.checked) (s := Rows.OpenSpec.upto Rows.actsLivesSpec) (k := Rows.uptoSmall) rfl own started (by kernel_rfl) Try.func6
    (OpenSpec.witness (enc := enc) (C := Try.checked) (s := Rows.OpenSpec.upto Rows.actsLivesSpec) (k := Rows.uptoSmall) rfl false ⟨#[], #[.agg #[.int .i64 0, .int .i64 0, .int .i64 0, .int .i64 0, .int .i64 0, .int .i64 0, .int .i64 0, .int .i64 0, .int .i64 0, .int .i64 0, .int .i64 0], .slice none 0 0], []⟩ 8 (by kernel_rfl) (by kernel_rfl) (by kernel_rfl)
      (x := ([.agg [.lit (.int .i64 0), .lit (.int .i64 0), .lit (.int .i64 0), .lit (.int .i64 0), .lit (.int .i64 0), .lit (.int .i64 0), .lit (.int .i64 0), .lit (.int .i64 0), .lit (.int .i64 0), .lit (.int .i64 0), .lit (.int .i64 0)], .nil], [], [])) (by kernel_rfl) rfl (by kernel_rfl)) ?_
  intro W base args ds gs before hval hW _ hk _
  exact contract H enc W base args ds gs before hval hW hk

theorem over : Rows.actsLivesUptoRow.holds Try.pinned (Rows.OpenSpec.upto Rows.actsLivesSpec) :=
  OpenClaim.holds_of_cond 6 Try.f6 rfl rfl rfl rfl rfl rfl rfl ⟨rfl, rfl, rfl, rfl, rfl⟩ rfl rfl rfl rfl rfl (by kernel_rfl) Try.func6 (by kernel_rfl)
    (of_decide_eq_true (by kernel_rfl)) (by unfold Func.isWrapper; first | (rw [if_pos (by decide +kernel)]; kernel_rfl) | (rw [if_neg (by decide +kernel)]; exact ⟨rfl, rfl⟩))
    (fun os started H enc _ F => lifted os started H enc F)
end Go.Proofs.Ytjmdbgbkmjlmdaa.actsLives
namespace Go.Proofs.Ytjmdbgbkmjlmdaa
theorem actsLives_holds : Rows.ActsLivesUptoSaid := actsLives.over
end Go.Proofs.Ytjmdbgbkmjlmdaa
