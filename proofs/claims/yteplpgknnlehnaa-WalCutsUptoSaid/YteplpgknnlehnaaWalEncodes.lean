/- The statement WalEncodes: for every batch whose puts hold together at most 2^20 values and letters the law returns true, and the batch reads as it did. -/
import Derived.Test.YteplpgknnlehnaaWal3
import Derived.Test.YteplpgknnlehnaaRead
import Derived.JoinedCond
import Derived.ChangeOld
import Derived.OpenShut
namespace Go.Proofs.Yteplpgknnlehnaa.walEncodes
set_option linter.unusedSimpArgs false
set_option linter.unusedVariables false
open Go.ChangeShapes Go.WideShapes Go.ChangeAt Go.RowKit Go.Deep
set_option linter.unusedVariables false

theorem own : ownKnob Try.prog.godebug = none := by kernel_rfl
theorem laidOut : laidOutB Try.prog = true := by kernel_rfl

theorem read_put {H : Type} {enc : TypeId × Value → H} {w : World} {base : Nat} {spare : Nat → Bool} {held : Bool} (fuel : Nat) (cs : List Value) (x : DataW H × List MemPlace)
    (h : DataW.trod enc Try.prog w base spare held fuel 68 cs = some x) : ∃ p : Put, cs = p.cells ∧ p.key.length + p.val.length + 1 ≤ Rows.uptoBulk x.1 := by
  have ht : Try.prog.underlying 68 = some (.struct #[⟨"Key", 9, 0, false, "", "", 0⟩, ⟨"Value", 9, 1, false, "", "", 16⟩, ⟨"Del", 4, 2, false, "", "", 32⟩]) := by kernel_rfl
  obtain ⟨y0, y1, y2, n, rfl, hl, h0, h1, h2⟩ := trod_struct3 ht h
  have e3 : Try.prog.cellsOf 68 = 3 := by kernel_rfl
  have es : Try.prog.cellsOf 9 = 1 := by kernel_rfl
  have eb : Try.prog.cellsOf 4 = 1 := by kernel_rfl
  rw [e3] at hl
  obtain ⟨c0, c1, c2, rfl⟩ := list3 hl
  simp only [es, eb] at h0 h1 h2
  obtain ⟨k, hk, hkb⟩ := read_str Try.underlying9 h0
  obtain ⟨v, hv, hvb⟩ := read_str Try.underlying9 h1
  obtain ⟨d, hd⟩ := read_bool Try.underlying4 h2
  simp at hk hv hd
  subst hk hv hd
  refine ⟨⟨k, v, d⟩, rfl, ?_⟩
  have := bulk_pos y2.1
  simp only [Rows.uptoBulk, Rows.uptoBulkAll]
  omega

theorem batch_under : Try.prog.underlying 25 = some (.struct #[⟨"Seq", 22, 0, false, "", "", 0⟩, ⟨"Puts", 23, 1, false, "", "", 8⟩]) := by kernel_rfl
theorem read_batch {H : Type} {enc : TypeId × Value → H} {w : World} {base : Nat} {spare : Nat → Bool} {held : Bool} (fuel : Nat) (cs : List Value) (x : DataW H × List MemPlace)
    (h : DataW.trod enc Try.prog w base spare held fuel 25 cs = some x) : ∃ (b : Batch) (A : Option Addr) (c : Nat), cs = [.int .u64 b.seq, .slice A b.puts.length c] ∧ b.seq < M64 ∧
      Row w base w.heap.size 3 A b.puts.length (b.puts.flatMap Put.cells) ∧ b.puts.length + 1 ≤ Rows.uptoBulk x.1 ∧ ∀ p ∈ b.puts, p.key.length + p.val.length + 1 ≤ Rows.uptoBulk x.1 := by
  obtain ⟨y0, y1, n, rfl, hl, h0, h1⟩ := trod_struct2 batch_under h
  have e2 : Try.prog.cellsOf 25 = 2 := by kernel_rfl
  have eu : Try.prog.cellsOf 22 = 1 := by kernel_rfl
  have es : Try.prog.cellsOf 23 = 1 := by kernel_rfl
  rw [e2] at hl
  obtain ⟨c0, c1, rfl⟩ := list2 hl
  simp only [eu, es] at h0 h1
  obtain ⟨k, hk, hkb⟩ := read_u64 Try.underlying22 h0
  obtain ⟨A, c, l, hv, hr, _, _, hb, hm⟩ := read_slice (sz := 3) (fun (p : Put) cs => cs = p.cells) (fun p => p.key.length + p.val.length + 1) Try.underlying23 (by kernel_rfl) (by decide) read_put h1
  simp at hk hv
  subst hk hv
  refine ⟨⟨k, l⟩, A, c, rfl, hkb, hr.plain, ?_, fun p hp => ?_⟩
  · simp only [Rows.uptoBulk, Rows.uptoBulkAll]
    omega
  · have := hm p hp
    simp only [Rows.uptoBulk, Rows.uptoBulkAll]
    omega

set_option maxRecDepth 100000 in
theorem contract (H : Type) (enc : TypeId × Value → H) (W : World) (base : Nat) (args : Array Value) (ds gs : List (DataW H)) (before : List MemPlace)
    (hval : ∀ (j : Nat) t v, Try.f3.params[j]? = some t → args[j]? = some v → Value.okWide Try.prog W .any base t v)
    (hW : DataW.Whole enc Try.prog Try.f3.params.toList Rows.walEncodesSpec.vars false W args.toList ds gs before) (hk : Rows.uptoSmall H (ds ++ gs) = true) :
    Calls Try.prog 3 args W fun e W' => ∃ v, e = .returned v ∧ Rows.walEncodesSpec.post enc Try.prog Try.f3 false true false false W args v W' := by
  have hW' := hW
  obtain ⟨p, q, hA0, hV, rfl, hfz, hnd⟩ := hW
  have hA : DataW.TrodAll enc Try.prog W 0 (fun _ => true) true Try.f3.params.toList args.toList ds p := hA0
  rw [Try.params3] at hA hval
  obtain ⟨v0, vs0, d0, ds0, p0, q0, hargs, rfl, rfl, h0, r0⟩ := trodAll_cons hA
  obtain ⟨rfl, rfl, rfl⟩ := trodAll_nil r0
  obtain rfl : args = #[v0] := by cases args; simp_all
  obtain ⟨rfl, rfl⟩ := trodVars_none hV
  have k0 := h0
  have lt0 : ∀ x ∈ p0, x.block < W.heap.size := by obtain ⟨m, hm⟩ := k0; exact DataW.trod_lt m _ _ _ hm
  obtain ⟨cs, rfl, hsz⟩ := okWide_struct batch_under (hval 0 25 v0 rfl rfl)
  obtain ⟨fuel, hf⟩ := h0
  obtain ⟨b, A, c, hcs, hs, hr, hlen, hput⟩ := read_batch _ _ _ hf
  have hb := bulk_small hk
  have hd : Rows.uptoBulk d0 ≤ 1048576 := Nat.le_trans (bulk_part (by simp)) hb
  dsimp only at hlen hput
  obtain rfl : cs = #[.int .u64 b.seq, .slice A b.puts.length c] := by
    have : cs.toList = [.int .u64 b.seq, .slice A b.puts.length c] := hcs
    rw [← Array.toArray_toList (xs := cs), this]
  clear hA0
  refine (walEncodes_walk b hs (by omega) (fun p hp => ?_) A c W hr).mono fun e W' ⟨he, bel⟩ => ?_
  · have := hput p hp
    exact ⟨by omega, by omega⟩
  subst he
  exact ⟨_, rfl, _, _, _, [], _, [], hW', trodAll_mk1 (shut_bool Try.underlying4 _), (trodAll_cons_mk (Below.trod laidOut (by kernel_rfl) (of_decide_eq_true (by kernel_rfl)) k0 bel lt0) trodAll_mk0), rfl, bel.frame _, fun h => by cases h⟩

set_option maxRecDepth 100000 in
theorem lifted (os : Os) (started : os.Started) (H : Type) (enc : TypeId × Value → H) (F : Stop.Interp) :
    ReturnsInHanded {} Try.checked os 3 .any ((Rows.OpenSpec.upto Rows.walEncodesSpec).pre6 enc Try.prog Try.f3 Rows.walEncodesUptoRow.domain false) (((Rows.OpenSpec.upto Rows.walEncodesSpec).at F).post enc Try.prog Try.f3 false true false false) := by
  refine returnsInHanded_of_cond (C := Try.checked) (s := Rows.OpenSpec.upto Rows.walEncodesSpec) (k := Rows.uptoSmall) rfl own started (by kernel_rfl) Try.func3
    (OpenSpec.witness (enc := enc) (C := Try.checked) (s := Rows.OpenSpec.upto Rows.walEncodesSpec) (k := Rows.uptoSmall) rfl false ⟨#[], #[.agg #[.int .u64 0, .slice none 0 0]], []⟩ 8 (by kernel_rfl) (by kernel_rfl) (by kernel_rfl)
      (x := ([.agg [.lit (.int .u64 0), .nil]], [], [])) (by kernel_rfl) rfl (by kernel_rfl)) ?_
  intro W base args ds gs before hval hW _ hk _
  exact contract H enc W base args ds gs before hval hW hk

theorem over : Rows.walEncodesUptoRow.holds Try.pinned (Rows.OpenSpec.upto Rows.walEncodesSpec) :=
  OpenClaim.holds_of_cond 3 Try.f3 rfl rfl rfl rfl rfl rfl rfl ⟨rfl, rfl, rfl, rfl, rfl⟩ rfl rfl rfl rfl rfl (by kernel_rfl) Try.func3 (by kernel_rfl)
    (of_decide_eq_true (by kernel_rfl)) (by unfold Func.isWrapper; first | (rw [if_pos (by decide +kernel)]; kernel_rfl) | (rw [if_neg (by decide +kernel)]; exact ⟨rfl, rfl⟩))
    (fun os started H enc _ F => lifted os started H enc F)
end Go.Proofs.Yteplpgknnlehnaa.walEncodes
namespace Go.Proofs.Yteplpgknnlehnaa
theorem walEncodes_holds : Rows.WalEncodesUptoSaid := walEncodes.over
end Go.Proofs.Yteplpgknnlehnaa
