/- The statement WalCuts: for batches and a text that hold together at most 2^20 values and letters, and every cut, the law returns true, and the batches read as they did. -/
import Derived.Test.YteplpgknnlehnaaWalCuts0
import Derived.Test.YteplpgknnlehnaaWalEncodes
namespace Go.Proofs.Yteplpgknnlehnaa.walCuts
set_option linter.unusedSimpArgs false
set_option linter.unusedVariables false
open Go.ChangeShapes Go.WideShapes Go.ChangeAt Go.RowKit Go.Deep
set_option linter.unusedVariables false

theorem own : ownKnob Try.prog.godebug = none := by kernel_rfl
theorem laidOut : laidOutB Try.prog = true := by kernel_rfl

/-- how great a batch is -/
def bigOf (l : List Put) : Nat := l.foldr (fun p m => max (p.key.length + p.val.length + 1) m) (l.length + 1)
theorem fold_le {B : Nat} : ∀ (l : List Put) (m : Nat), m ≤ B → (∀ p ∈ l, p.key.length + p.val.length + 1 ≤ B) → l.foldr (fun p m => max (p.key.length + p.val.length + 1) m) m ≤ B
  | [], m, h, _ => h
  | p :: l, m, h, hp => by
    have h1 := fold_le l m h (fun q hq => hp q (by simp [hq]))
    have h2 := hp p (by simp)
    simp only [List.foldr_cons]
    omega
theorem le_fold : ∀ (l : List Put) (m : Nat), m ≤ l.foldr (fun p m => max (p.key.length + p.val.length + 1) m) m ∧ ∀ p ∈ l, p.key.length + p.val.length + 1 ≤ l.foldr (fun p m => max (p.key.length + p.val.length + 1) m) m
  | [], m => ⟨Nat.le_refl _, by simp⟩
  | p :: l, m => by
    obtain ⟨h1, h2⟩ := le_fold l m
    simp only [List.foldr_cons]
    refine ⟨by omega, fun q hq => ?_⟩
    rcases List.mem_cons.1 hq with rfl | hq
    · omega
    · have := h2 q hq; omega

theorem read_lb {H : Type} {enc : TypeId × Value → H} {w : World} {base : Nat} {spare : Nat → Bool} {held : Bool} (fuel : Nat) (cs : List Value) (x : DataW H × List MemPlace)
    (h : DataW.trod enc Try.prog w base spare held fuel 25 cs = some x) :
    ∃ q : LB, (cs = q.cells ∧ q.b.seq < M64 ∧ Row w base w.heap.size 3 q.A q.b.puts.length (q.b.puts.flatMap Put.cells)) ∧ bigOf q.b.puts ≤ Rows.uptoBulk x.1 := by
  obtain ⟨b, A, c, hcs, hs, hr, hn, hp⟩ := walEncodes.read_batch fuel cs x h
  exact ⟨⟨b, A, c, 0, 0⟩, ⟨hcs, hs, hr⟩, fold_le _ _ hn hp⟩
theorem rowR_facts {α : Type} {f : α → List Value} {p : α → Prop} {w : World} {lo hi sz : Nat} {A : Option Addr} {l : List α} (h : RowR (fun y cs => cs = f y ∧ p y) w lo hi sz A l) : RowR (fun y cs => cs = f y) w lo hi sz A l ∧ ∀ y ∈ l, p y := by
  obtain ⟨prs, rfl, hp, hr⟩ := h
  refine ⟨⟨prs, rfl, fun q hq => ⟨(hp q hq).1.1, (hp q hq).2⟩, hr⟩, fun y hy => ?_⟩
  obtain ⟨q, hq, rfl⟩ := List.mem_map.1 hy
  exact (hp q hq).1.2

set_option maxRecDepth 100000 in
theorem contract (H : Type) (enc : TypeId × Value → H) (W : World) (base : Nat) (args : Array Value) (ds gs : List (DataW H)) (before : List MemPlace)
    (hval : ∀ (j : Nat) t v, Try.f9.params[j]? = some t → args[j]? = some v → Value.okWide Try.prog W .any base t v)
    (hW : DataW.Whole enc Try.prog Try.f9.params.toList Rows.walCutsSpec.vars false W args.toList ds gs before) (hk : Rows.uptoSmall H (ds ++ gs) = true) :
    Calls Try.prog 9 args W fun e W' => ∃ v, e = .returned v ∧ Rows.walCutsSpec.post enc Try.prog Try.f9 false true false false W args v W' := by
  have hW' := hW
  obtain ⟨p, q, hA0, hV, rfl, hfz, hnd⟩ := hW
  have hA : DataW.TrodAll enc Try.prog W 0 (fun _ => true) true Try.f9.params.toList args.toList ds p := hA0
  rw [Try.params9] at hA hval
  obtain ⟨v0, vs0, d0, ds0, p0, q0, hargs, rfl, rfl, h0, r0⟩ := trodAll_cons hA
  obtain ⟨v1, vs1, d1, ds1, p1, q1, rfl, rfl, rfl, h1, r1⟩ := trodAll_cons r0
  obtain ⟨v2, vs2, d2, ds2, p2, q2, rfl, rfl, rfl, h2, r2⟩ := trodAll_cons r1
  obtain ⟨rfl, rfl, rfl⟩ := trodAll_nil r2
  obtain rfl : args = #[v0, v1, v2] := by cases args; simp_all
  obtain ⟨rfl, rfl⟩ := trodVars_none hV
  have k0 := h0
  have k1 := h1
  have k2 := h2
  have lt0 : ∀ x ∈ p0, x.block < W.heap.size := by obtain ⟨m, hm⟩ := k0; exact DataW.trod_lt m _ _ _ hm
  have lt1 : ∀ x ∈ p1, x.block < W.heap.size := by obtain ⟨m, hm⟩ := k1; exact DataW.trod_lt m _ _ _ hm
  have lt2 : ∀ x ∈ p2, x.block < W.heap.size := by obtain ⟨m, hm⟩ := k2; exact DataW.trod_lt m _ _ _ hm
  obtain ⟨a, len, cap, rfl⟩ := okWide_slice Try.underlying55 (hval 0 55 v0 rfl rfl)
  obtain ⟨n1, rfl⟩ := okWide_int Try.underlying3 (hval 1 3 v1 rfl rfl)
  obtain ⟨s2, rfl⟩ := okWide_string Try.underlying9 (hval 2 9 v2 rfl rfl)
  obtain ⟨f0, hf0⟩ := h0
  obtain ⟨f1, hf1⟩ := h1
  obtain ⟨f2, hf2⟩ := h2
  have hb := bulk_small hk
  have hd0 : Rows.uptoBulk d0 ≤ 1048576 := Nat.le_trans (bulk_part (by simp)) hb
  have hd2 : Rows.uptoBulk d2 ≤ 1048576 := Nat.le_trans (bulk_part (by simp)) hb
  obtain ⟨A, c, L0, hcs0, hr0, _, _, hb0, hm0⟩ := read_slice (sz := 2) (fun (q : LB) cs => cs = q.cells ∧ q.b.seq < M64 ∧ Row W 0 W.heap.size 3 q.A q.b.puts.length (q.b.puts.flatMap Put.cells)) (fun q => bigOf q.b.puts) Try.underlying55 (by kernel_rfl) (by decide) read_lb hf0
  obtain ⟨m1, hcs1, hm1⟩ := read_i64 Try.underlying3 hf1
  obtain ⟨l2, hcs2, hl2⟩ := read_str Try.underlying9 hf2
  obtain ⟨hr0, hp0⟩ := rowR_facts hr0
  dsimp only at hm0 hb0 hl2
  have e0 : (.slice a len cap : Value) = .slice A L0.length c := by
    have h : [(.slice a len cap : Value)] = [.slice A L0.length c] := hcs0
    simpa using h
  have e1 : (.int .i64 n1 : Value) = .int .i64 m1 := by
    have h : [(.int .i64 n1 : Value)] = [.int .i64 m1] := hcs1
    simpa using h
  have e2 : (.string s2 : Value) = str l2 := by
    have h : [(.string s2 : Value)] = [str l2] := hcs2
    simpa using h
  rw [e0, e1, e2]
  rw [e0] at k0
  rw [e1] at k1
  rw [e2] at k2
  clear hA0
  have hbats : BatsR W A L0 := ⟨hr0.plain, fun q hq => (hp0 q hq).2⟩
  refine (walCuts_walk L0 m1 hm1 l2 (by omega) (by omega) (fun q hq => ⟨(hp0 q hq).1, ?_, fun p hp => ?_⟩) A c W hbats).mono fun e W' ⟨he, bel⟩ => ?_
  · have g1 := (le_fold q.b.puts (q.b.puts.length + 1)).1
    have g2 := hm0 q hq
    dsimp only [bigOf] at g2
    omega
  · have g1 := (le_fold q.b.puts (q.b.puts.length + 1)).2 p hp
    have g2 := hm0 q hq
    dsimp only [bigOf] at g2
    exact ⟨by omega, by omega⟩
  subst he
  rw [e0, e1, e2] at hW'
  exact ⟨_, rfl, _, _, _, [], _, [], hW', trodAll_mk1 (shut_bool Try.underlying4 _), (trodAll_cons_mk (Below.trod laidOut (by kernel_rfl) (of_decide_eq_true (by kernel_rfl)) k0 bel lt0) (trodAll_cons_mk (Below.trod laidOut (by kernel_rfl) (of_decide_eq_true (by kernel_rfl)) k1 bel lt1) (trodAll_cons_mk (Below.trod laidOut (by kernel_rfl) (of_decide_eq_true (by kernel_rfl)) k2 bel lt2) trodAll_mk0))), rfl, bel.frame _, fun h => by cases h⟩

set_option maxRecDepth 100000 in
theorem lifted (os : Os) (started : os.Started) (H : Type) (enc : TypeId × Value → H) (F : Stop.Interp) :
    ReturnsInHanded {} Try.checked os 9 .any ((Rows.OpenSpec.upto Rows.walCutsSpec).pre6 enc Try.prog Try.f9 Rows.walCutsUptoRow.domain false) (((Rows.OpenSpec.upto Rows.walCutsSpec).at F).post enc Try.prog Try.f9 false true false false) := by
  refine returnsInHanded_of_cond (C := Try.checked) (s := Rows.OpenSpec.upto Rows.walCutsSpec) (k := Rows.uptoSmall) rfl own started (by kernel_rfl) Try.func9
    (OpenSpec.witness (enc := enc) (C := Try.checked) (s := Rows.OpenSpec.upto Rows.walCutsSpec) (k := Rows.uptoSmall) rfl false ⟨#[], #[.slice none 0 0, .int .i64 0, .string ⟨#[]⟩], []⟩ 8 (by kernel_rfl) (by kernel_rfl) (by kernel_rfl)
      (x := ([.nil, .lit (.int .i64 0), .lit (.string [])], [], [])) (by kernel_rfl) rfl (by kernel_rfl)) ?_
  intro W base args ds gs before hval hW _ hk _
  exact contract H enc W base args ds gs before hval hW hk

theorem over : Rows.walCutsUptoRow.holds Try.pinned (Rows.OpenSpec.upto Rows.walCutsSpec) :=
  OpenClaim.holds_of_cond 9 Try.f9 rfl rfl rfl rfl rfl rfl rfl ⟨rfl, rfl, rfl, rfl, rfl⟩ rfl rfl rfl rfl rfl (by kernel_rfl) Try.func9 (by kernel_rfl)
    (of_decide_eq_true (by kernel_rfl)) (by unfold Func.isWrapper; first | (rw [if_pos (by decide +kernel)]; kernel_rfl) | (rw [if_neg (by decide +kernel)]; exact ⟨rfl, rfl⟩))
    (fun os started H enc _ F => lifted os started H enc F)
end Go.Proofs.Yteplpgknnlehnaa.walCuts
namespace Go.Proofs.Yteplpgknnlehnaa
theorem walCuts_holds : Rows.WalCutsUptoSaid := walCuts.over
end Go.Proofs.Yteplpgknnlehnaa
