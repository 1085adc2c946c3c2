/- The statement ManifestOrphans (card): for edits, a name and names that hold together at most 2^20 values and letters the law returns true, and the arguments read as they did; the library's tables and errors hold what its text lays. -/
import Derived.Test.YtmmaddmlfofgbaaDoorPko15
import Derived.Test.YtmmaddmlfofgbaaDoorPko12
import Derived.Test.YtmmaddmlfofgbaaDoorPko2
import Derived.Test.YtmmaddmlfofgbaaDoorPko9
namespace Go.Proofs.YtmmaddmlfofgbaaDoor.manifestOrphans
set_option linter.unusedSimpArgs false
set_option linter.unusedVariables false
open Go.ChangeShapes Go.WideShapes Go.ChangeAt Go.RowKit Go.Deep
open Go.ChangeMaps (open_string shut_string)

theorem read_text {H : Type} {enc : TypeId × Value → H} {w : World} {base : Nat} {spare : Nat → Bool} {held : Bool} (fuel : Nat) (cs : List Value) (x : DataW H × List MemPlace) (h : DataW.trod enc Tryd.prog w base spare held fuel 9 cs = some x) :
    ∃ s : List UInt8, (cs = sV s ∧ True) ∧ s.length ≤ Rows.uptoBulk x.1 := by
  obtain ⟨s, hs, hb⟩ := read_str Tryd.underlying9 h
  exact ⟨s, ⟨hs, trivial⟩, by omega⟩
set_option maxRecDepth 100000 in
theorem contract (H : Type) (enc : TypeId × Value → H) (W : World) (base : Nat) (args : Array Value) (ds gs : List (DataW H)) (before : List MemPlace)
    (hval : ∀ (j : Nat) t v, Tryd.f3.params[j]? = some t → args[j]? = some v → Value.okWide Tryd.prog W .any base t v)
    (hW : DataW.Whole enc Tryd.prog Tryd.f3.params.toList Rows.manifestOrphansSpec.vars false W args.toList ds gs before) (hL : laidMet Tryd.prog Rows.manifestOrphansUptoRow.laid W) (hk : Rows.uptoSmall H (ds ++ gs) = true) :
    Calls Tryd.prog 3 args W fun e W' => ∃ v, e = .returned v ∧ Rows.manifestOrphansSpec.post enc Tryd.prog Tryd.f3 false true false false W args v W' := by
  have hW' := hW
  obtain ⟨p, q, hA0, hV, rfl, hfz, hnd⟩ := hW
  have hA : DataW.TrodAll enc Tryd.prog W 0 (fun _ => true) true Tryd.f3.params.toList args.toList ds p := hA0
  rw [Tryd.params3] at hA hval
  obtain ⟨v0, vs0, d0, ds0, p0, q0, hargs, rfl, rfl, h0, r0⟩ := trodAll_cons hA
  obtain ⟨v1, vs1, d1, ds1, p1, q1, rfl, rfl, rfl, h1, r1⟩ := trodAll_cons r0
  obtain ⟨v2, vs2, d2, ds2, p2, q2, rfl, rfl, rfl, h2, r2⟩ := trodAll_cons r1
  obtain ⟨rfl, rfl, rfl⟩ := trodAll_nil r2
  obtain rfl : args = #[v0, v1, v2] := by cases args; simp_all
  obtain ⟨rfl, rfl⟩ := trodVars_none hV
  have hb := bulk_small hk
  have k0 := h0
  have k2 := h2
  have lt0 : ∀ x ∈ p0, x.block < W.heap.size := by obtain ⟨m, hm⟩ := k0; exact DataW.trod_lt m _ _ _ hm
  have lt2 : ∀ x ∈ p2, x.block < W.heap.size := by obtain ⟨m, hm⟩ := k2; exact DataW.trod_lt m _ _ _ hm
  obtain ⟨a, len, cap, rfl⟩ := okWide_slice Tryd.underlying22 (hval 0 22 v0 rfl rfl)
  obtain ⟨s1, rfl, rfl, rfl, ws1⟩ := open_string Tryd.underlying9 (hval 1 9 v1 rfl rfl) h1
  obtain ⟨a2, len2, cap2, rfl⟩ := okWide_slice Tryd.underlying23 (hval 2 23 v2 rfl rfl)
  obtain ⟨f0, hf0⟩ := h0
  obtain ⟨f2, hf2⟩ := h2
  have hd0 : Rows.uptoBulk d0 ≤ 1048576 := Nat.le_trans (bulk_part (by simp)) hb
  have hd2 : Rows.uptoBulk d2 ≤ 1048576 := Nat.le_trans (bulk_part (by simp)) hb
  obtain ⟨l1, rfl⟩ : ∃ l : List UInt8, s1 = ⟨l.toArray⟩ := ⟨s1.data.toList, by simp⟩
  have hd1 : Rows.uptoBulk (H := H) (.lit (.string (⟨l1.toArray⟩ : ByteArray).data.toList)) ≤ 1048576 := Nat.le_trans (bulk_part (by simp)) hb
  have hl1 : l1.length ≤ 140737488355328 := by
    simp only [Rows.uptoBulk] at hd1
    omega
  obtain ⟨A, c, L0, hcs0, hr0, _, _, hb0, hm0⟩ := read_slice (sz := 5) (fun (q : LE) cs => cs = q.cells ∧ manifestApplies.Fits q.e ∧ EditAt W W.heap.size q.e q.A q.A' ∧ q.e.drop.length ≤ q.c') (fun q => manifestApplies.bigE q.e) Tryd.underlying22 (by kernel_rfl) (by decide) manifestApplies.read_le hf0
  obtain ⟨hr0, hp0⟩ := Go.Proofs.YtmmaddmlfofgbaaDoor.manifestEncodes.rowR_facts hr0
  dsimp only at hm0 hb0
  have e0 : (.slice a len cap : Value) = .slice A L0.length c := by
    have h : [(.slice a len cap : Value)] = [.slice A L0.length c] := hcs0
    simpa using h
  obtain ⟨A2, c2, names, hcs2, hr2, _, _, hb2, hm2⟩ := read_slice (sz := 1) (fun (s : List UInt8) cs => cs = sV s ∧ True) (fun s => s.length) Tryd.underlying23 (by kernel_rfl) (by decide) read_text hf2
  obtain ⟨hr2, -⟩ := Go.Proofs.YtmmaddmlfofgbaaDoor.manifestEncodes.rowR_facts hr2
  dsimp only at hm2 hb2
  have e2 : (.slice a2 len2 cap2 : Value) = .slice A2 names.length c2 := by
    have h : [(.slice a2 len2 cap2 : Value)] = [.slice A2 names.length c2] := hcs2
    simpa using h
  have hrow := hr2.plain
  rw [e0, e2]
  rw [e0] at k0
  rw [e2] at k2
  clear hA0
  have hq := fun q hq => (⟨(hp0 q hq).1.ok (Nat.le_trans (hm0 q hq) hd0), (hp0 q hq).2.2⟩ : q.e.Ok ∧ q.e.drop.length ≤ q.c')
  have hE : EditsR W A L0 := ⟨hr0.plain.wide (Nat.zero_le _) (Nat.le_refl _), fun q hq => (hp0 q hq).2.1⟩
  have hwalk : Calls Tryd.prog 3 #[.slice A L0.length c, .string ⟨l1.toArray⟩, .slice A2 names.length c2] W fun e w' => e = .returned (.bool true) ∧ Ext W w' := by
    by_cases hz : names = []
    · subst hz
      exact manifestOrphans_none L0 (by omega) hq A c l1 hl1 A2 c2 W (tz_of hL) (ev_of hL) hE
    · have hpos : 0 < names.length := List.length_pos_iff.2 hz
      obtain ⟨b, off, rfl, _, _, hc⟩ := hrow.mem hpos
      refine manifestOrphans_some L0 (by omega) hq A c l1 hl1 names (by omega) (fun s hs => by have := hm2 s hs; omega) b off c2 W (tz_of hL) (ev_of hL) hE (fun i s hi => ?_)
      refine hc i _ ?_
      rw [sV_flat, List.getElem?_map, hi]
      rfl
  refine hwalk.mono fun e W' ⟨he, bel⟩ => ?_
  subst he
  rw [e0, e2] at hW'
  exact ⟨_, rfl, _, _, _, [], _, [], hW', trodAll_mk1 (shut_bool Tryd.underlying4 _), (trodAll_cons_mk (Below.trod laidOut (by kernel_rfl) (of_decide_eq_true (by kernel_rfl)) k0 bel lt0) (trodAll_cons_mk (shut_string Tryd.underlying9 ws1) (trodAll_cons_mk (Below.trod laidOut (by kernel_rfl) (of_decide_eq_true (by kernel_rfl)) k2 bel lt2) trodAll_mk0))), rfl, bel.frame _, fun h => by cases h⟩
theorem reads (os : Os) {H : Type} (enc : TypeId × Value → H) : (DataW.whole enc Tryd.prog ((World.doorLaid Tryd.prog 200 os).forCall (fun _ _ => 0) ⟨#[], #[.slice none 0 0, .string ⟨#[]⟩, .slice none 0 0], []⟩).memory Tryd.f3.params.toList Rows.manifestOrphansSpec.vars false (#[.slice none 0 0, .string ⟨#[]⟩, .slice none 0 0] : Array Value).toList 8).map (fun x => (x.1, x.2.1)) = some ([.nil, .lit (.string []), .nil], []) := by kernel_rfl
set_option maxRecDepth 100000 in
theorem lifted (os : Os) (started : os.Started) (H : Type) (enc : TypeId × Value → H) (F : Stop.Interp) :
    ReturnsInHanded {} Tryd.checked os 3 .any ((Rows.OpenSpec.upto Rows.manifestOrphansSpec).preRow enc Tryd.prog Tryd.f3 Rows.manifestOrphansUptoRow.domain false Rows.manifestOrphansUptoRow.laid) (((Rows.OpenSpec.upto Rows.manifestOrphansSpec).at F).post enc Tryd.prog Tryd.f3 false true false false) := by
  obtain ⟨⟨x1, x2, x3⟩, hx, hx1⟩ := Option.map_eq_some_iff.1 (reads os enc)
  simp only [Prod.mk.injEq] at hx1
  obtain ⟨rfl, rfl⟩ := hx1
  refine returnsInHanded_of_row (C := Tryd.checked) (s := Rows.OpenSpec.upto Rows.manifestOrphansSpec) own started (by kernel_rfl) Tryd.func3
    (witness_row_atRef (enc := enc) (C := Tryd.checked) false (World.doorLaid Tryd.prog 200 os) #[.slice none 0 0, .string ⟨#[]⟩, .slice none 0 0] rfl (by kernel_rfl) (by kernel_rfl) (by kernel_rfl)
      (OpenSpec.preRow_of_cond 8 hx (by kernel_rfl) (fun k hk => by cases hk; kernel_rfl) (by kernel_rfl) (door_met os _))) ?_
  intro W base args ds gs before hval hW _ hcond _ hL _ _
  exact contract H enc W base args ds gs before hval hW hL (hcond _ rfl)
theorem said : Rows.ManifestOrphansUptoSaid :=
  OpenClaim.holds_of_cond 3 Tryd.f3 rfl rfl rfl rfl rfl rfl rfl ⟨rfl, rfl, rfl, rfl, rfl⟩ rfl rfl rfl rfl rfl (by kernel_rfl) Tryd.func3 (by kernel_rfl)
    (of_decide_eq_true (by kernel_rfl)) (by unfold Func.isWrapper; first | (rw [if_pos (by decide +kernel)]; kernel_rfl) | (rw [if_neg (by decide +kernel)]; exact ⟨rfl, rfl⟩))
    (fun os started H enc _ F => by rw [OpenClaim.pre_eq_preRow]; exact lifted os started H enc F)
theorem plain (f : FuncId) (fn : Func) (hf : Tryd.pinned.checked.prog.funcNamed "tapestry/tapestrylaw10.ManifestOrphans" = some f) (hfn : Tryd.pinned.checked.prog.funcs[f]? = some fn) :
    true = Tryd.pinned.checked.prog.looks [] ∧ ∀ (j : Nat) t, fn.params[j]? = some t → Tryd.pinned.checked.prog.wantsStandIn t = false := by
  obtain rfl : f = 3 := Option.some.inj ((show Tryd.prog.funcNamed "tapestry/tapestrylaw10.ManifestOrphans" = some 3 by kernel_rfl).symm.trans hf) |>.symm
  obtain rfl : fn = Tryd.f3 := (Option.some.inj (Tryd.func3.symm.trans hfn)).symm
  refine ⟨by kernel_rfl, fun j t ht => ?_⟩
  rw [Tryd.params3] at ht
  have hm : t ∈ [22, 9, 23] := by simpa using Array.mem_of_getElem? ht
  have hall : ([22, 9, 23].all fun u => !Tryd.prog.wantsStandIn u) = true := by kernel_rfl
  exact (show Tryd.prog.wantsStandIn t = false by simpa using List.all_eq_true.1 hall t hm)
end Go.Proofs.YtmmaddmlfofgbaaDoor.manifestOrphans
namespace Go.Proofs.YtmmaddmlfofgbaaDoor
theorem manifestOrphans_holds : Rows.ManifestOrphansUptoCardSaid :=
  Claim7.holds_tied_plain_at .later [] _ _ _ _ manifestOrphans.said (fun _ h => by cases h) (by kernel_rfl) (fun _ h => by cases h) manifestOrphansUpto_row_tie rfl ⟨rfl, rfl⟩ (by kernel_rfl) rfl manifestOrphans.plain (by kernel_rfl)
end Go.Proofs.YtmmaddmlfofgbaaDoor
