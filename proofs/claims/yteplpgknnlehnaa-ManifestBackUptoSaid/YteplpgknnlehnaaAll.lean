/- All frames of bytes (layer 2): the program's iterator, whatever the loop's body does. -/
import Derived.RangeFuncNested
import Derived.RangeFuncBound
import Derived.RangeFuncCalls
import Derived.RangeFuncLeaves
import Derived.RangeFuncBox
import Derived.Shelf.Abstract
import Derived.Shelf.RegionOpen
import Derived.OwnWalkIn
import Derived.TacticsInMore
import Derived.LoopNIn
import Derived.LoopIn
import Derived.Maps.OwnIn
import Derived.Test.YteplpgknnlehnaaFrAt
namespace Go.Proofs.Yteplpgknnlehnaa
set_option linter.unusedSimpArgs false
set_option linter.unusedVariables false
open Go.RowKit Go.Shelf

attribute [local go_sem] Oper.semAt_some

/-- a place and the frame that stands there -/
abbrev FA (s : List UInt8) := { x : Nat × Frm // x.1 ≤ s.length ∧ x.2.load.length ≤ 262144 }
def faEnc (s : List UInt8) (x : FA s) : Array Value := #[.int .i64 (x.1.1 : Int), .agg #[.int .u8 (x.1.2.kind.toNat : Int), str x.1.2.load]]
def faVals {s : List UInt8} (l : List (FA s)) : List (Nat × Frm) := l.map Subtype.val
theorem ext_grown {w w' : World} (h : Ext w w') : w.grownBy w' none := ⟨h.os, h.tape, h.output, h.size, fun k hk _ => h.block k hk⟩

set_option maxRecDepth 100000 in
set_option maxHeartbeats 800000 in
theorem all_in (n : Nat) (s : List UInt8) (w : World) :
    CallsIn Fence.wide n Try.prog 67 #[str s] w fun e w' => e = .returned (.func (.func 88) #[] #[.pointer (some ⟨w.heap.size, 0, none⟩)]) ∧ w' = w.alloc (.cells #[str s] 9) := by
  refine callsIn_of_wp Try.func67 rfl trivial ?_ rfl
  simp only [Try.ntmps67, List.size_toArray, List.length_cons, List.length_nil, Nat.reduceAdd, Nat.reduceSub, Array.replicate_succ, Array.replicate_zero, List.push_toArray, List.append_toArray, List.nil_append, List.cons_append]
  gi_wp2
  go_ret
  exact ⟨rfl, rfl⟩

set_option maxRecDepth 100000 in
set_option maxHeartbeats 800000 in
theorem all1_in (n : Nat) (hn : 1 ≤ n) (l Bn : Nat) (s : List UInt8) (hl : s.length ≤ 1099511627776) (N : Nat) (hN : ∀ F fin, FrAt s 0 F fin → F.length ≤ N) (J Jx : List (FA s) → World → Prop) (W : World) (hJ : AbidesFrom W.heap.size J) (hBW : Bn < W.heap.size)
    (hY : ∀ pre x W1, J pre W1 → pre.length < N → YieldAt Fence.wide (n - 1) Try.prog l (faEnc s x) W1 fun e W' =>
      (e = .returned (.bool true) ∧ J (pre ++ [x]) W' ∧ (W1.heap.size ≤ W'.heap.size ∧ W'.cell? ⟨Bn, 0, none⟩ = W1.cell? ⟨Bn, 0, none⟩)) ∨ (e = .returned (.bool false) ∧ Jx (pre ++ [x]) W'))
    (hBn : W.cell? ⟨Bn, 0, none⟩ = some (str s)) (h0 : J [] W) :
    CallsIn Fence.wide n Try.prog 88 #[.func (.yield l) #[] #[], .pointer (some ⟨Bn, 0, none⟩)] W fun e W' => (∃ v, e = .returned v) ∧
      ((∃ ys, (∃ fin, FrAt s 0 (faVals ys) fin) ∧ J ys W') ∨ (∃ pre, (∃ rest fin, FrAt s 0 (faVals pre ++ rest) fin) ∧ Jx pre W')) := by
  refine callsIn_of_wp Try.func88 rfl trivial ?_ rfl
  simp only [Try.ntmps88, List.size_toArray, List.length_cons, List.length_nil, Nat.reduceAdd, Nat.reduceSub, Array.replicate_succ, Array.replicate_zero, List.push_toArray, List.append_toArray, List.nil_append, List.cons_append]
  gi_wp2
  gi_loopw [3] (fun v wr => ∃ (pre : List (FA s)) (p : Nat), v = .int .i64 p ∧ p ≤ s.length ∧ pre.length * 5 ≤ p ∧ Hid (∀ rest fin, FrAt s p rest fin → FrAt s 0 (faVals pre ++ rest) fin) ∧ wr.cell? ⟨Bn, 0, none⟩ = some (str s) ∧ J pre wr ∧ W.heap.size ≤ wr.heap.size)
    (fun v _ => s.length - (intOf v).toNat)
  case atStart => exact ⟨[], 0, rfl, by omega, by simp, fun _ _ h => h, hBn, h0, Nat.le_refl _⟩
  case round =>
    obtain ⟨pre, p, rfl, hp, hp5, hH, hc, hJp, hz⟩ := hrel
    have C := Lib.hid (fun w => frameTake_any (s.drop p) (by simp; omega) w)
    obtain ⟨f1, f2, f3, f4⟩ := takeFrame_facts (s.drop p)
    rw [List.length_drop] at f2
    obtain ⟨⟨kd, ld⟩, m, e, hu⟩ : ∃ f n e, takeFrame (s.drop p) = (f, n, e) := ⟨_, _, _, rfl⟩
    rw [hu] at C f1 f2 f3 f4
    dsimp only at f1 f2 f3 f4
    have HU := Lib.hid hu
    clear hu
    by_cases he : e = 0
    · subst he
      have f5 : 5 ≤ m := f4 rfl
      have HST := Lib.hid (fun rest fin h => hH.out _ fin (FrAt.step p ⟨kd, ld⟩ m rest fin HU.out h))
      obtain ⟨rest0, fin0, hfr0⟩ := FrAt.exists_ s (s.length - (p + m) + 1) (p + m) (by omega) (by omega)
      have hpn : pre.length < N := by
        have h := hN _ _ (HST.out rest0 fin0 hfr0)
        simp [faVals] at h
        omega
      clear f4 hH HU
      gi_wp2_with fail
      refine ⟨trivial, (callsIn_wide.2 (C.out _)).mono ?_⟩
      rintro _ w1 ⟨rfl, hb1⟩
      dsimp only
      obtain ⟨x, hx⟩ : ∃ x : FA s, x = ⟨(p, ⟨kd, ld⟩), hp, f1⟩ := ⟨_, rfl⟩
      have hb2 := hb1.trans' (Ext.al w1 (.cells #[.int .u8 (kd.toNat : Int), str ld] 73))
      have hJ1 := hJ pre wr _ none hJp (ext_grown hb2) (fun r e => by cases e)
      have hc1 := (hb2.cell (p := ⟨Bn, 0, none⟩) (by simp; omega)).trans hc
      obtain ⟨fn, tmps, assign, body, hy, hR⟩ := hY pre x _ hJ1 hpn
      rw [show faEnc s x = #[.int .i64 (p : Int), .agg #[.int .u8 (kd.toNat : Int), str ld]] by rw [hx]; rfl] at hy
      have hz1 := hb2.size
      gi_wp2
      refine hR.mono ?_
      rintro e W3 (⟨rfl, hJ3, hk3⟩ | ⟨rfl, hJx3⟩)
      · have hc3 := hk3.2.trans hc1
        have hz3 := hk3.1
        gi_wp2
        exact ⟨⟨pre ++ [x], p + m, by simp, by omega, by simp; omega, fun rest fin h => by rw [faVals, List.map_append, List.append_assoc]; rw [hx]; exact HST.out rest fin h, hc3, hJ3, by omega⟩, by simp [intOf]; omega⟩
      · gi_wp2
        refine bodyPost_ret (results_none rfl _ _ _) rfl ?_
        refine ⟨⟨_, rfl⟩, .inr ⟨pre ++ [x], ⟨rest0, fin0, ?_⟩, hJx3⟩⟩
        rw [faVals, List.map_append, List.append_assoc, hx]
        exact HST.out rest0 fin0 hfr0
    · have hne : ((e : Int) != 0) = true := by simp; omega
      have HST := Lib.hid (hH.out [] p (FrAt.stop p (by rw [HU.out]; exact he)))
      clear f4 hH
      gi_wp2_with fail
      refine ⟨trivial, (callsIn_wide.2 (C.out _)).mono ?_⟩
      rintro _ w1 ⟨rfl, hb1⟩
      dsimp only
      have hJ1 := hJ pre wr _ none hJp (ext_grown (hb1.trans' (Ext.al w1 (.cells #[.int .u8 (kd.toNat : Int), str ld] 73)))) (fun r e => by cases e)
      gi_wp2
      refine ⟨fun _ h => (by cases h), ?_⟩
      gi_wp2
      refine bodyPost_ret (results_none rfl _ _ _) rfl ?_
      have h := HST.out
      rw [List.append_nil] at h
      exact ⟨⟨_, rfl⟩, .inl ⟨pre, ⟨p, h⟩, hJ1⟩⟩

/-- frame.All's value, for every loop body that leaves the bytes alone; N: at most so many frames stand there -/
theorem all_stopsN (n : Nat) (hn : 1 ≤ n) (Bn : Nat) (s : List UInt8) (hl : s.length ≤ 1099511627776) (N : Nat) (hN : ∀ F fin, FrAt s 0 F fin → F.length ≤ N) (w : World) (hBw : Bn < w.heap.size) (hc : w.cell? ⟨Bn, 0, none⟩ = some (str s)) :
    SeqStopsK Fence.wide n Try.prog 88 #[.pointer (some ⟨Bn, 0, none⟩)] (faEnc s) (fun W1 W' => W1.heap.size ≤ W'.heap.size ∧ W'.cell? ⟨Bn, 0, none⟩ = W1.cell? ⟨Bn, 0, none⟩) (fun ys => ∃ fin, FrAt s 0 (faVals ys) fin)
      (fun pre => ∃ rest fin, FrAt s 0 (faVals pre ++ rest) fin) N w := fun l J Jx W hW hJ _ hY h0 =>
  all1_in n hn l Bn s hl N hN J Jx W hJ (Nat.lt_of_lt_of_le hBw hW.size) hY ((hW.cell (p := ⟨Bn, 0, none⟩) hBw).trans hc) h0
theorem frames_few (s : List UInt8) : ∀ F fin, FrAt s 0 F fin → F.length ≤ s.length + 1 := fun F fin h => by
  have := h.le (Nat.zero_le _)
  omega
theorem all_stops (n : Nat) (hn : 1 ≤ n) (Bn : Nat) (s : List UInt8) (hl : s.length ≤ 1099511627776) (w : World) (hBw : Bn < w.heap.size) (hc : w.cell? ⟨Bn, 0, none⟩ = some (str s)) :
    SeqStopsK Fence.wide n Try.prog 88 #[.pointer (some ⟨Bn, 0, none⟩)] (faEnc s) (fun W1 W' => W1.heap.size ≤ W'.heap.size ∧ W'.cell? ⟨Bn, 0, none⟩ = W1.cell? ⟨Bn, 0, none⟩) (fun ys => ∃ fin, FrAt s 0 (faVals ys) fin)
      (fun pre => ∃ rest fin, FrAt s 0 (faVals pre ++ rest) fin) (s.length + 1) w := all_stopsN n hn Bn s hl _ (frames_few s) w hBw hc
end Go.Proofs.Yteplpgknnlehnaa
