/- The statement ManifestApplies: for edits that hold together at most 2^20 values and letters the law returns true, and the edits read as they did. -/
import Derived.Test.YteplpgknnlehnaaApplies0
import Derived.Test.YteplpgknnlehnaaManEncodes
namespace Go.Proofs.Yteplpgknnlehnaa.manifestApplies
set_option linter.unusedSimpArgs false
set_option linter.unusedVariables false
open Go.ChangeShapes Go.WideShapes Go.ChangeAt Go.RowKit Go.Deep
set_option linter.unusedVariables false

theorem own : ownKnob Try.prog.godebug = none := by kernel_rfl
theorem laidOut : laidOutB Try.prog = true := by kernel_rfl

/-- how great an edit is -/
def bigT (t : Table) : Nat := t.least.length + t.great.length + 1
def bigE (e : Edit) : Nat := e.add.foldr (fun t m => max (bigT t) m) (e.add.length + e.drop.length + 1)
theorem fold_le {B : Nat} : ∀ (l : List Table) (m : Nat), m ≤ B → (∀ t ∈ l, bigT t ≤ B) → l.foldr (fun t m => max (bigT t) m) m ≤ B
  | [], m, h, _ => h
  | t :: l, m, h, hp => by
    have h1 := fold_le l m h (fun q hq => hp q (by simp [hq]))
    have h2 := hp t (by simp)
    simp only [List.foldr_cons]
    omega
theorem le_fold : ∀ (l : List Table) (m : Nat), m ≤ l.foldr (fun t m => max (bigT t) m) m ∧ ∀ t ∈ l, bigT t ≤ l.foldr (fun t m => max (bigT t) m) m
  | [], m => ⟨Nat.le_refl _, by simp⟩
  | t :: l, m => by
    obtain ⟨h1, h2⟩ := le_fold l m
    simp only [List.foldr_cons]
    refine ⟨by omega, fun q hq => ?_⟩
    rcases List.mem_cons.1 hq with rfl | hq
    · omega
    · have := h2 q hq; omega
/-- its numbers fit their words -/
structure Fits (e : Edit) : Prop where
  next : e.next < M64
  seq : e.seq < M64
  log : e.log < M64
  add : ∀ t ∈ e.add, t.num < M64 ∧ I64 t.level ∧ I64 t.size ∧ I64 t.count
  drop : ∀ n ∈ e.drop, n < M64
theorem Fits.ok {e : Edit} (h : Fits e) (hb : bigE e ≤ 1048576) : e.Ok := by
  obtain ⟨h1, h2⟩ := le_fold e.add (e.add.length + e.drop.length + 1)
  unfold bigE at hb
  refine ⟨h.next, h.seq, h.log, fun t ht => ?_, h.drop, by omega, by omega⟩
  obtain ⟨f1, f2, f3, f4⟩ := h.add t ht
  have h3 := h2 t ht
  have h4 : bigT t = t.least.length + t.great.length + 1 := rfl
  exact ⟨f1, f2, f3, f4, by omega, by omega⟩

theorem read_le {H : Type} {enc : TypeId × Value → H} {w : World} {base : Nat} {spare : Nat → Bool} {held : Bool} (fuel : Nat) (cs : List Value) (x : DataW H × List MemPlace)
    (h : DataW.trod enc Try.prog w base spare held fuel 35 cs = some x) :
    ∃ q : LE, (cs = q.cells ∧ Fits q.e ∧ EditAt w w.heap.size q.e q.A q.A' ∧ q.e.drop.length ≤ q.c') ∧ bigE q.e ≤ Rows.uptoBulk x.1 := by
  obtain ⟨y0, y1, y2, y3, y4, n, rfl, hl, h0, h1, h2, h3, h4⟩ := trod_struct5 manifestEncodes.edit_under h
  have e5 : Try.prog.cellsOf 35 = 5 := by kernel_rfl
  have eu : Try.prog.cellsOf 22 = 1 := by kernel_rfl
  have es : Try.prog.cellsOf 32 = 1 := by kernel_rfl
  have en : Try.prog.cellsOf 33 = 1 := by kernel_rfl
  rw [e5] at hl
  obtain ⟨c0, c1, c2, c3, c4, rfl⟩ := list5 hl
  simp only [eu, es, en] at h0 h1 h2 h3 h4
  obtain ⟨a0, k0, b0⟩ := read_u64 Try.underlying22 h0
  obtain ⟨a1, k1, b1⟩ := read_u64 Try.underlying22 h1
  obtain ⟨a2, k2, b2⟩ := read_u64 Try.underlying22 h2
  obtain ⟨A, c, l, k3, hr3, _, _, hb3, hm3⟩ := read_slice (sz := 6) (fun (t : Table) cs => cs = t.cells ∧ t.num < M64 ∧ I64 t.level ∧ I64 t.size ∧ I64 t.count) (fun t => t.least.length + t.great.length + 1) Try.underlying32 (by kernel_rfl) (by decide) manifestEncodes.read_table h3
  obtain ⟨A', c', l', k4, hr4, hlc4, _, hb4, _⟩ := read_slice (sz := 1) (fun (n : Nat) cs => cs = u64C n ∧ n < M64) (fun _ => 0) Try.underlying33 (by kernel_rfl) (by decide) manifestEncodes.read_number h4
  simp at k0 k1 k2 k3 k4
  subst k0 k1 k2 k3 k4
  obtain ⟨hr3, hf3⟩ := manifestEncodes.rowR_facts hr3
  obtain ⟨hr4, hf4⟩ := manifestEncodes.rowR_facts hr4
  refine ⟨⟨⟨a0, a1, a2, l, l'⟩, A, A', c, c'⟩, ⟨rfl, ⟨b0, b1, b2, hf3, hf4⟩, ⟨hr3.plain.wide (Nat.zero_le _) (Nat.le_refl _), hr4.plain.wide (Nat.zero_le _) (Nat.le_refl _)⟩, hlc4⟩, ?_⟩
  simp only [Rows.uptoBulk, Rows.uptoBulkAll]
  refine fold_le _ _ (by dsimp only; omega) (fun t ht => ?_)
  have := hm3 t ht
  unfold bigT
  omega

set_option maxRecDepth 100000 in
theorem contract (H : Type) (enc : TypeId × Value → H) (W : World) (base : Nat) (args : Array Value) (ds gs : List (DataW H)) (before : List MemPlace)
    (hval : ∀ (j : Nat) t v, Try.f7.params[j]? = some t → args[j]? = some v → Value.okWide Try.prog W .any base t v)
    (hW : DataW.Whole enc Try.prog Try.f7.params.toList Rows.manifestAppliesSpec.vars false W args.toList ds gs before) (hk : Rows.uptoSmall H (ds ++ gs) = true) :
    Calls Try.prog 7 args W fun e W' => ∃ v, e = .returned v ∧ Rows.manifestAppliesSpec.post enc Try.prog Try.f7 false true false false W args v W' := by
  have hW' := hW
  obtain ⟨p, q, hA0, hV, rfl, hfz, hnd⟩ := hW
  have hA : DataW.TrodAll enc Try.prog W 0 (fun _ => true) true Try.f7.params.toList args.toList ds p := hA0
  rw [Try.params7] at hA hval
  obtain ⟨v0, vs0, d0, ds0, p0, q0, hargs, rfl, rfl, h0, r0⟩ := trodAll_cons hA
  obtain ⟨rfl, rfl, rfl⟩ := trodAll_nil r0
  obtain rfl : args = #[v0] := by cases args; simp_all
  obtain ⟨rfl, rfl⟩ := trodVars_none hV
  have k0 := h0
  have lt0 : ∀ x ∈ p0, x.block < W.heap.size := by obtain ⟨m, hm⟩ := k0; exact DataW.trod_lt m _ _ _ hm
  obtain ⟨a, len, cap, rfl⟩ := okWide_slice Try.underlying45 (hval 0 45 v0 rfl rfl)
  obtain ⟨f0, hf0⟩ := h0
  have hb := bulk_small hk
  have hd0 : Rows.uptoBulk d0 ≤ 1048576 := Nat.le_trans (bulk_part (by simp)) hb
  obtain ⟨A, c, L0, hcs0, hr0, _, _, hb0, hm0⟩ := read_slice (sz := 5) (fun (q : LE) cs => cs = q.cells ∧ Fits q.e ∧ EditAt W W.heap.size q.e q.A q.A' ∧ q.e.drop.length ≤ q.c') (fun q => bigE q.e) Try.underlying45 (by kernel_rfl) (by decide) read_le hf0
  obtain ⟨hr0, hp0⟩ := manifestEncodes.rowR_facts hr0
  dsimp only at hm0 hb0
  have e0 : (.slice a len cap : Value) = .slice A L0.length c := by
    have h : [(.slice a len cap : Value)] = [.slice A L0.length c] := hcs0
    simpa using h
  rw [e0]
  rw [e0] at k0
  clear hA0
  refine (manifestApplies_walk L0 (by omega) (fun q hq => ⟨(hp0 q hq).1.ok (Nat.le_trans (hm0 q hq) hd0), (hp0 q hq).2.2⟩) A c W ⟨hr0.plain.wide (Nat.zero_le _) (Nat.le_refl _), fun q hq => (hp0 q hq).2.1⟩).mono fun e W' ⟨he, bel⟩ => ?_
  subst he
  rw [e0] at hW'
  exact ⟨_, rfl, _, _, _, [], _, [], hW', trodAll_mk1 (shut_bool Try.underlying4 _), (trodAll_cons_mk (Below.trod laidOut (by kernel_rfl) (of_decide_eq_true (by kernel_rfl)) k0 bel lt0) trodAll_mk0), rfl, bel.frame _, fun h => by cases h⟩

set_option maxRecDepth 100000 in
theorem lifted (os : Os) (started : os.Started) (H : Type) (enc : TypeId × Value → H) (F : Stop.Interp) :
    ReturnsInHanded {} Try.checked os 7 .any ((Rows.OpenSpec.upto Rows.manifestAppliesSpec).pre6 enc Try.prog Try.f7 Rows.manifestAppliesUptoRow.domain false) (((Rows.OpenSpec.upto Rows.manifestAppliesSpec).at F).post enc Try.prog Try.f7 false true false false) := by
  refine returnsInHanded_of_cond (C := Try.checked) (s := Rows.OpenSpec.upto Rows.manifestAppliesSpec) (k := Rows.uptoSmall) rfl own started (by kernel_rfl) Try.func7
    (OpenSpec.witness (enc := enc) (C := Try.checked) (s := Rows.OpenSpec.upto Rows.manifestAppliesSpec) (k := Rows.uptoSmall) rfl false ⟨#[], #[.slice none 0 0], []⟩ 8 (by kernel_rfl) (by kernel_rfl) (by kernel_rfl)
      (x := ([.nil], [], [])) (by kernel_rfl) rfl (by kernel_rfl)) ?_
  intro W base args ds gs before hval hW _ hk _
  exact contract H enc W base args ds gs before hval hW hk

theorem over : Rows.manifestAppliesUptoRow.holds Try.pinned (Rows.OpenSpec.upto Rows.manifestAppliesSpec) :=
  OpenClaim.holds_of_cond 7 Try.f7 rfl rfl rfl rfl rfl rfl rfl ⟨rfl, rfl, rfl, rfl, rfl⟩ rfl rfl rfl rfl rfl (by kernel_rfl) Try.func7 (by kernel_rfl)
    (of_decide_eq_true (by kernel_rfl)) (by unfold Func.isWrapper; first | (rw [if_pos (by decide +kernel)]; kernel_rfl) | (rw [if_neg (by decide +kernel)]; exact ⟨rfl, rfl⟩))
    (fun os started H enc _ F => lifted os started H enc F)
end Go.Proofs.Yteplpgknnlehnaa.manifestApplies
namespace Go.Proofs.Yteplpgknnlehnaa
theorem manifestApplies_holds : Rows.ManifestAppliesUptoSaid := manifestApplies.over
end Go.Proofs.Yteplpgknnlehnaa
