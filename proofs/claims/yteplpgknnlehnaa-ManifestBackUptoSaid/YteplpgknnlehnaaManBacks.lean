/- The statement ManifestBack: for edits that hold together at most 2^20 values and letters, cut anywhere, the law returns true, and its arguments read as they did. -/
import Derived.Test.YteplpgknnlehnaaManBacks0
import Derived.Test.YteplpgknnlehnaaManApplies
namespace Go.Proofs.Yteplpgknnlehnaa.manifestBack
set_option linter.unusedSimpArgs false
set_option linter.unusedVariables false
open Go.ChangeShapes Go.WideShapes Go.ChangeAt Go.RowKit Go.Deep
set_option linter.unusedVariables false

theorem own : ownKnob Try.prog.godebug = none := by kernel_rfl
theorem laidOut : laidOutB Try.prog = true := by kernel_rfl

set_option maxRecDepth 100000 in
theorem contract (H : Type) (enc : TypeId × Value → H) (W : World) (base : Nat) (args : Array Value) (ds gs : List (DataW H)) (before : List MemPlace)
    (hval : ∀ (j : Nat) t v, Try.f11.params[j]? = some t → args[j]? = some v → Value.okWide Try.prog W .any base t v)
    (hW : DataW.Whole enc Try.prog Try.f11.params.toList Rows.manifestBackSpec.vars false W args.toList ds gs before) (hk : Rows.uptoSmall H (ds ++ gs) = true) :
    Calls Try.prog 11 args W fun e W' => ∃ v, e = .returned v ∧ Rows.manifestBackSpec.post enc Try.prog Try.f11 false true false false W args v W' := by
  have hW' := hW
  obtain ⟨p, q, hA0, hV, rfl, hfz, hnd⟩ := hW
  have hA : DataW.TrodAll enc Try.prog W 0 (fun _ => true) true Try.f11.params.toList args.toList ds p := hA0
  rw [Try.params11] at hA hval
  obtain ⟨v0, vs0, d0, ds0, p0, q0, hargs, rfl, rfl, h0, r0⟩ := trodAll_cons hA
  obtain ⟨v1, vs1, d1, ds1, p1, q1, rfl, rfl, rfl, h1, r1⟩ := trodAll_cons r0
  obtain ⟨rfl, rfl, rfl⟩ := trodAll_nil r1
  obtain rfl : args = #[v0, v1] := by cases args; simp_all
  obtain ⟨rfl, rfl⟩ := trodVars_none hV
  have k0 := h0
  have k1 := h1
  have lt0 : ∀ x ∈ p0, x.block < W.heap.size := by obtain ⟨m, hm⟩ := k0; exact DataW.trod_lt m _ _ _ hm
  have lt1 : ∀ x ∈ p1, x.block < W.heap.size := by obtain ⟨m, hm⟩ := k1; exact DataW.trod_lt m _ _ _ hm
  obtain ⟨n1, rfl⟩ := okWide_int Try.underlying3 (hval 1 3 v1 rfl rfl)
  obtain ⟨a, len, cap, rfl⟩ := okWide_slice Try.underlying45 (hval 0 45 v0 rfl rfl)
  obtain ⟨f0, hf0⟩ := h0
  obtain ⟨f1, hf1⟩ := h1
  have hb := bulk_small hk
  have hd0 : Rows.uptoBulk d0 ≤ 1048576 := Nat.le_trans (bulk_part (by simp)) hb
  obtain ⟨A, c, L0, hcs0, hr0, _, _, hb0, hm0⟩ := read_slice (sz := 5) (fun (q : LE) cs => cs = q.cells ∧ manifestApplies.Fits q.e ∧ EditAt W W.heap.size q.e q.A q.A' ∧ q.e.drop.length ≤ q.c') (fun q => manifestApplies.bigE q.e) Try.underlying45 (by kernel_rfl) (by decide) manifestApplies.read_le hf0
  obtain ⟨hr0, hp0⟩ := Go.Proofs.Yteplpgknnlehnaa.manifestEncodes.rowR_facts hr0
  dsimp only at hm0 hb0
  have e0 : (.slice a len cap : Value) = .slice A L0.length c := by
    have h : [(.slice a len cap : Value)] = [.slice A L0.length c] := hcs0
    simpa using h
  obtain ⟨m1, hcs1, hm1⟩ := read_i64 Try.underlying3 hf1
  have e1 : (.int .i64 n1 : Value) = .int .i64 m1 := by
    have h : [(.int .i64 n1 : Value)] = [.int .i64 m1] := hcs1
    simpa using h
  rw [e0, e1]
  rw [e0] at k0
  rw [e1] at k1
  clear hA0
  refine (manifestBack_walk L0 m1 hm1 (by omega) (fun q hq => ⟨(hp0 q hq).1.ok (Nat.le_trans (hm0 q hq) hd0), (hp0 q hq).2.2⟩) A c W ⟨hr0.plain.wide (Nat.zero_le _) (Nat.le_refl _), fun q hq => (hp0 q hq).2.1⟩).mono fun e W' ⟨he, bel⟩ => ?_
  subst he
  rw [e0, e1] at hW'
  exact ⟨_, rfl, _, _, _, [], _, [], hW', trodAll_mk1 (shut_bool Try.underlying4 _), (trodAll_cons_mk (Below.trod laidOut (by kernel_rfl) (of_decide_eq_true (by kernel_rfl)) k0 bel lt0) (trodAll_cons_mk (Below.trod laidOut (by kernel_rfl) (of_decide_eq_true (by kernel_rfl)) k1 bel lt1) trodAll_mk0)), rfl, bel.frame _, fun h => by cases h⟩

set_option maxRecDepth 100000 in
theorem lifted (os : Os) (started : os.Started) (H : Type) (enc : TypeId × Value → H) (F : Stop.Interp) :
    ReturnsInHanded {} Try.checked os 11 .any ((Rows.OpenSpec.upto Rows.manifestBackSpec).pre6 enc Try.prog Try.f11 Rows.manifestBackUptoRow.domain false) (((Rows.OpenSpec.upto Rows.manifestBackSpec).at F).post enc Try.prog Try.f11 false true false false) := by
  refine returnsInHanded_of_cond (C := Try.checked) (s := Rows.OpenSpec.upto Rows.manifestBackSpec) (k := Rows.uptoSmall) rfl own started (by kernel_rfl) Try.func11
    (OpenSpec.witness (enc := enc) (C := Try.checked) (s := Rows.OpenSpec.upto Rows.manifestBackSpec) (k := Rows.uptoSmall) rfl false ⟨#[], #[.slice none 0 0, .int .i64 0], []⟩ 8 (by kernel_rfl) (by kernel_rfl) (by kernel_rfl)
      (x := ([.nil, .lit (.int .i64 0)], [], [])) (by kernel_rfl) rfl (by kernel_rfl)) ?_
  intro W base args ds gs before hval hW _ hk _
  exact contract H enc W base args ds gs before hval hW hk

theorem over : Rows.manifestBackUptoRow.holds Try.pinned (Rows.OpenSpec.upto Rows.manifestBackSpec) :=
  OpenClaim.holds_of_cond 11 Try.f11 rfl rfl rfl rfl rfl rfl rfl ⟨rfl, rfl, rfl, rfl, rfl⟩ rfl rfl rfl rfl rfl (by kernel_rfl) Try.func11 (by kernel_rfl)
    (of_decide_eq_true (by kernel_rfl)) (by unfold Func.isWrapper; first | (rw [if_pos (by decide +kernel)]; kernel_rfl) | (rw [if_neg (by decide +kernel)]; exact ⟨rfl, rfl⟩))
    (fun os started H enc _ F => lifted os started H enc F)
end Go.Proofs.Yteplpgknnlehnaa.manifestBack
namespace Go.Proofs.Yteplpgknnlehnaa
theorem manifestBack_holds : Rows.ManifestBackUptoSaid := manifestBack.over
end Go.Proofs.Yteplpgknnlehnaa
