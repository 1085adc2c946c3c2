/- The statement ManifestEncodes: for every edit that holds together at most 2^20 values and letters the law returns true, and the edit reads as it did. -/
import Derived.Test.YteplpgknnlehnaaMan8
import Derived.Test.YteplpgknnlehnaaRead
import Derived.JoinedCond
import Derived.ChangeOld
import Derived.OpenShut
namespace Go.Proofs.Yteplpgknnlehnaa.manifestEncodes
set_option linter.unusedSimpArgs false
set_option linter.unusedVariables false
open Go.ChangeShapes Go.WideShapes Go.ChangeAt Go.RowKit Go.Deep
set_option linter.unusedVariables false

theorem own : ownKnob Try.prog.godebug = none := by kernel_rfl
theorem laidOut : laidOutB Try.prog = true := by kernel_rfl

theorem read_table {H : Type} {enc : TypeId × Value → H} {w : World} {base : Nat} {spare : Nat → Bool} {held : Bool} (fuel : Nat) (cs : List Value) (x : DataW H × List MemPlace)
    (h : DataW.trod enc Try.prog w base spare held fuel 53 cs = some x) : ∃ t : Table, (cs = t.cells ∧ t.num < M64 ∧ I64 t.level ∧ I64 t.size ∧ I64 t.count) ∧ t.least.length + t.great.length + 1 ≤ Rows.uptoBulk x.1 := by
  have ht : Try.prog.underlying 53 = some (.struct #[⟨"Number", 22, 0, false, "", "", 0⟩, ⟨"Level", 3, 1, false, "", "", 8⟩, ⟨"Size", 3, 2, false, "", "", 16⟩, ⟨"Count", 3, 3, false, "", "", 24⟩,
    ⟨"Least", 9, 4, false, "", "", 32⟩, ⟨"Greatest", 9, 5, false, "", "", 48⟩]) := by kernel_rfl
  obtain ⟨y0, y1, y2, y3, y4, y5, n, rfl, hl, h0, h1, h2, h3, h4, h5⟩ := trod_struct6 ht h
  have e6 : Try.prog.cellsOf 53 = 6 := by kernel_rfl
  have es : Try.prog.cellsOf 9 = 1 := by kernel_rfl
  have eu : Try.prog.cellsOf 22 = 1 := by kernel_rfl
  have ei : Try.prog.cellsOf 3 = 1 := by kernel_rfl
  rw [e6] at hl
  obtain ⟨c0, c1, c2, c3, c4, c5, rfl⟩ := list6 hl
  simp only [es, eu, ei] at h0 h1 h2 h3 h4 h5
  obtain ⟨a0, k0, b0⟩ := read_u64 Try.underlying22 h0
  obtain ⟨a1, k1, b1⟩ := read_i64 Try.underlying3 h1
  obtain ⟨a2, k2, b2⟩ := read_i64 Try.underlying3 h2
  obtain ⟨a3, k3, b3⟩ := read_i64 Try.underlying3 h3
  obtain ⟨a4, k4, b4⟩ := read_str Try.underlying9 h4
  obtain ⟨a5, k5, b5⟩ := read_str Try.underlying9 h5
  simp at k0 k1 k2 k3 k4 k5
  subst k0 k1 k2 k3 k4 k5
  refine ⟨⟨a0, a1, a2, a3, a4, a5⟩, ⟨rfl, b0, b1, b2, b3⟩, ?_⟩
  simp only [Rows.uptoBulk, Rows.uptoBulkAll]
  omega

theorem read_number {H : Type} {enc : TypeId × Value → H} {w : World} {base : Nat} {spare : Nat → Bool} {held : Bool} (fuel : Nat) (cs : List Value) (x : DataW H × List MemPlace)
    (h : DataW.trod enc Try.prog w base spare held fuel 22 cs = some x) : ∃ n : Nat, (cs = u64C n ∧ n < M64) ∧ 0 ≤ Rows.uptoBulk x.1 := by
  obtain ⟨a0, k0, b0⟩ := read_u64 Try.underlying22 h
  exact ⟨a0, ⟨k0, b0⟩, Nat.zero_le _⟩

theorem rowR_facts {α : Type} {f : α → List Value} {p : α → Prop} {w : World} {lo hi sz : Nat} {A : Option Addr} {l : List α} (h : RowR (fun y cs => cs = f y ∧ p y) w lo hi sz A l) : RowR (fun y cs => cs = f y) w lo hi sz A l ∧ ∀ y ∈ l, p y := by
  obtain ⟨prs, rfl, hp, hr⟩ := h
  refine ⟨⟨prs, rfl, fun q hq => ⟨(hp q hq).1.1, (hp q hq).2⟩, hr⟩, fun y hy => ?_⟩
  obtain ⟨q, hq, rfl⟩ := List.mem_map.1 hy
  exact (hp q hq).1.2

theorem edit_under : Try.prog.underlying 35 = some (.struct #[⟨"Next", 22, 0, false, "", "", 0⟩, ⟨"Seq", 22, 1, false, "", "", 8⟩, ⟨"Log", 22, 2, false, "", "", 16⟩, ⟨"Add", 32, 3, false, "", "", 24⟩,
    ⟨"Drop", 33, 4, false, "", "", 48⟩]) := by kernel_rfl
theorem read_edit {H : Type} {enc : TypeId × Value → H} {w : World} {base : Nat} {spare : Nat → Bool} {held : Bool} (fuel : Nat) (cs : List Value) (x : DataW H × List MemPlace)
    (h : DataW.trod enc Try.prog w base spare held fuel 35 cs = some x) (hd : Rows.uptoBulk x.1 ≤ 1048576) : ∃ (e : Edit) (A A' : Option Addr) (c c' : Nat),
      cs = [.int .u64 e.next, .int .u64 e.seq, .int .u64 e.log, .slice A e.add.length c, .slice A' e.drop.length c'] ∧ e.Ok ∧ EditAt w w.heap.size e A A' := by
  obtain ⟨y0, y1, y2, y3, y4, n, rfl, hl, h0, h1, h2, h3, h4⟩ := trod_struct5 edit_under h
  have e5 : Try.prog.cellsOf 35 = 5 := by kernel_rfl
  have eu : Try.prog.cellsOf 22 = 1 := by kernel_rfl
  have es : Try.prog.cellsOf 32 = 1 := by kernel_rfl
  have en : Try.prog.cellsOf 33 = 1 := by kernel_rfl
  rw [e5] at hl
  obtain ⟨c0, c1, c2, c3, c4, rfl⟩ := list5 hl
  simp only [eu, es, en] at h0 h1 h2 h3 h4
  obtain ⟨a0, k0, b0⟩ := read_u64 Try.underlying22 h0
  obtain ⟨a1, k1, b1⟩ := read_u64 Try.underlying22 h1
  obtain ⟨a2, k2, b2⟩ := read_u64 Try.underlying22 h2
  obtain ⟨A, c, l, k3, hr3, _, _, hb3, hm3⟩ := read_slice (sz := 6) (fun (t : Table) cs => cs = t.cells ∧ t.num < M64 ∧ I64 t.level ∧ I64 t.size ∧ I64 t.count) (fun t => t.least.length + t.great.length + 1) Try.underlying32 (by kernel_rfl) (by decide) read_table h3
  obtain ⟨A', c', l', k4, hr4, _, _, hb4, _⟩ := read_slice (sz := 1) (fun (n : Nat) cs => cs = u64C n ∧ n < M64) (fun _ => 0) Try.underlying33 (by kernel_rfl) (by decide) read_number h4
  simp at k0 k1 k2 k3 k4
  subst k0 k1 k2 k3 k4
  obtain ⟨hr3, hf3⟩ := rowR_facts hr3
  obtain ⟨hr4, hf4⟩ := rowR_facts hr4
  simp only [Rows.uptoBulk, Rows.uptoBulkAll] at hd
  refine ⟨⟨a0, a1, a2, l, l'⟩, A, A', c, c', rfl, ⟨b0, b1, b2, fun t ht => ?_, hf4, by dsimp only; omega, by dsimp only; omega⟩, ⟨hr3.plain.wide (Nat.zero_le _) (Nat.le_refl _), hr4.plain.wide (Nat.zero_le _) (Nat.le_refl _)⟩⟩
  obtain ⟨f1, f2, f3, f4⟩ := hf3 t ht
  have := hm3 t ht
  exact ⟨f1, f2, f3, f4, by omega, by omega⟩

set_option maxRecDepth 100000 in
theorem contract (H : Type) (enc : TypeId × Value → H) (W : World) (base : Nat) (args : Array Value) (ds gs : List (DataW H)) (before : List MemPlace)
    (hval : ∀ (j : Nat) t v, Try.f4.params[j]? = some t → args[j]? = some v → Value.okWide Try.prog W .any base t v)
    (hW : DataW.Whole enc Try.prog Try.f4.params.toList Rows.manifestEncodesSpec.vars false W args.toList ds gs before) (hk : Rows.uptoSmall H (ds ++ gs) = true) :
    Calls Try.prog 4 args W fun e W' => ∃ v, e = .returned v ∧ Rows.manifestEncodesSpec.post enc Try.prog Try.f4 false true false false W args v W' := by
  have hW' := hW
  obtain ⟨p, q, hA0, hV, rfl, hfz, hnd⟩ := hW
  have hA : DataW.TrodAll enc Try.prog W 0 (fun _ => true) true Try.f4.params.toList args.toList ds p := hA0
  rw [Try.params4] at hA hval
  obtain ⟨v0, vs0, d0, ds0, p0, q0, hargs, rfl, rfl, h0, r0⟩ := trodAll_cons hA
  obtain ⟨rfl, rfl, rfl⟩ := trodAll_nil r0
  obtain rfl : args = #[v0] := by cases args; simp_all
  obtain ⟨rfl, rfl⟩ := trodVars_none hV
  have k0 := h0
  have lt0 : ∀ x ∈ p0, x.block < W.heap.size := by obtain ⟨m, hm⟩ := k0; exact DataW.trod_lt m _ _ _ hm
  obtain ⟨cs, rfl, hsz⟩ := okWide_struct edit_under (hval 0 35 v0 rfl rfl)
  obtain ⟨fuel, hf⟩ := h0
  have hb := bulk_small hk
  have hd : Rows.uptoBulk d0 ≤ 1048576 := Nat.le_trans (bulk_part (by simp)) hb
  obtain ⟨e, A, A', c, c', hcs, hok, hr⟩ := read_edit _ _ _ hf hd
  obtain rfl : cs = #[.int .u64 e.next, .int .u64 e.seq, .int .u64 e.log, .slice A e.add.length c, .slice A' e.drop.length c'] := by
    have : cs.toList = [.int .u64 e.next, .int .u64 e.seq, .int .u64 e.log, .slice A e.add.length c, .slice A' e.drop.length c'] := hcs
    rw [← Array.toArray_toList (xs := cs), this]
  clear hA0
  refine (manifestEncodes_walk e hok A A' c c' W hr).mono fun e W' ⟨he, bel⟩ => ?_
  subst he
  exact ⟨_, rfl, _, _, _, [], _, [], hW', trodAll_mk1 (shut_bool Try.underlying4 _), (trodAll_cons_mk (Below.trod laidOut (by kernel_rfl) (of_decide_eq_true (by kernel_rfl)) k0 bel lt0) trodAll_mk0), rfl, bel.frame _, fun h => by cases h⟩

set_option maxRecDepth 100000 in
theorem lifted (os : Os) (started : os.Started) (H : Type) (enc : TypeId × Value → H) (F : Stop.Interp) :
    ReturnsInHanded {} Try.checked os 4 .any ((Rows.OpenSpec.upto Rows.manifestEncodesSpec).pre6 enc Try.prog Try.f4 Rows.manifestEncodesUptoRow.domain false) (((Rows.OpenSpec.upto Rows.manifestEncodesSpec).at F).post enc Try.prog Try.f4 false true false false) := by
  refine returnsInHanded_of_cond (C := Try.checked) (s := Rows.OpenSpec.upto Rows.manifestEncodesSpec) (k := Rows.uptoSmall) rfl own started (by kernel_rfl) Try.func4
    (OpenSpec.witness (enc := enc) (C := Try.checked) (s := Rows.OpenSpec.upto Rows.manifestEncodesSpec) (k := Rows.uptoSmall) rfl false ⟨#[], #[.agg #[.int .u64 0, .int .u64 0, .int .u64 0, .slice none 0 0, .slice none 0 0]], []⟩ 8 (by kernel_rfl) (by kernel_rfl) (by kernel_rfl)
      (x := ([.agg [.lit (.int .u64 0), .lit (.int .u64 0), .lit (.int .u64 0), .nil, .nil]], [], [])) (by kernel_rfl) rfl (by kernel_rfl)) ?_
  intro W base args ds gs before hval hW _ hk _
  exact contract H enc W base args ds gs before hval hW hk

theorem over : Rows.manifestEncodesUptoRow.holds Try.pinned (Rows.OpenSpec.upto Rows.manifestEncodesSpec) :=
  OpenClaim.holds_of_cond 4 Try.f4 rfl rfl rfl rfl rfl rfl rfl ⟨rfl, rfl, rfl, rfl, rfl⟩ rfl rfl rfl rfl rfl (by kernel_rfl) Try.func4 (by kernel_rfl)
    (of_decide_eq_true (by kernel_rfl)) (by unfold Func.isWrapper; first | (rw [if_pos (by decide +kernel)]; kernel_rfl) | (rw [if_neg (by decide +kernel)]; exact ⟨rfl, rfl⟩))
    (fun os started H enc _ F => lifted os started H enc F)
end Go.Proofs.Yteplpgknnlehnaa.manifestEncodes
namespace Go.Proofs.Yteplpgknnlehnaa
theorem manifestEncodes_holds : Rows.ManifestEncodesUptoSaid := manifestEncodes.over
end Go.Proofs.Yteplpgknnlehnaa
