/- All frames of bytes (layer 2): the document's walk. -/
import Derived.Test.YteplpgknnlehnaaFrAt
import Derived.Test.YteplpgknnlehnaaBase2
namespace Go.Proofs.Yteplpgknnlehnaa
set_option linter.unusedSimpArgs false
set_option linter.unusedVariables false
open Go.RowKit

def AtC (x : Nat × Frm) : List Value := [.int .i64 (x.1 : Int), .int .u8 (x.2.kind.toNat : Int), str x.2.load]
theorem AtC_len (x : Nat × Frm) : (AtC x).length = 3 := rfl
theorem AtC_one (x : Nat × Frm) : ∀ u ∈ AtC x, u.oneCell' = true := by simp [AtC, Value.oneCell']
theorem Try.atsOf : ElemOf Try.prog 113 117 3 32 := elemOf_mk Try.underlying113 (z := .agg #[.int .i64 0, .int .u8 0, str []]) (by kernel_rfl) rfl (by decide)

def AllPost (s : List UInt8) (w : World) (e : Ending) (w' : World) : Prop :=
  ∃ (L : List (Nat × Frm)) (fin : Nat) (A : Option Addr) (c : Nat), e = .returned (.tuple #[.slice A L.length c, .int .i64 (fin : Int)]) ∧ FrAt s 0 L fin ∧ Row w' w.heap.size w'.heap.size 3 A L.length (L.flatMap AtC) ∧ Ext w w'
theorem AllPost.mk {s : List UInt8} {w w' : World} {L : List (Nat × Frm)} {fin : Nat} {A : Option Addr} {c : Nat} (h : FrAt s 0 L fin) (hr : Row w' w.heap.size w'.heap.size 3 A L.length (L.flatMap AtC)) (hX : Ext w w') :
    AllPost s w (.returned (.tuple #[.slice A L.length c, .int .i64 (fin : Int)])) w' := ⟨L, fin, A, c, rfl, h, hr, hX⟩

set_option maxRecDepth 100000 in
set_option maxHeartbeats 800000 in
theorem all_ref (s : List UInt8) (hl : s.length ≤ 1099511627776) (w : World) : Calls Try.prog 70 #[str s] w (AllPost s w) := by
  go_enter Try.func70, Try.ntmps70
  go_wp2_with fail
  go_loopw [4, 5] (fun v4 v5 wr => ∃ (pre : List (Nat × Frm)) (p : Nat) (A : Option Addr) (c : Nat), v4 = .slice A pre.length c ∧ v5 = .int .i64 p ∧ p ≤ s.length ∧ pre.length * 5 ≤ p ∧ Hid (∀ rest fin, FrAt s p rest fin → FrAt s 0 (pre ++ rest) fin) ∧
    Own wr w.heap.size 117 AtC 3 A c pre ∧ Ext w wr) (fun _ v _ => s.length - (intOf v).toNat)
  · exact ⟨[], 0, none, 0, rfl, rfl, by omega, by simp, fun _ _ h => h, Own.nil_, Below.refl _ _⟩
  · obtain ⟨pre, p, A, c, rfl, rfl, hp, hp5, hH, hown, hX⟩ := hrel
    by_cases hlt : p < s.length
    · have C := Lib.hid (fun w => frameTake_ref (s.drop p) (by simp; omega) w)
      obtain ⟨f1, f2, f3, f4⟩ := takeFrame_facts (s.drop p)
      rw [List.length_drop] at f2
      obtain ⟨⟨kd, ld⟩, n, e, hu⟩ : ∃ f n e, takeFrame (s.drop p) = (f, n, e) := ⟨_, _, _, rfl⟩
      rw [hu] at C f1 f2 f3 f4
      dsimp only at f1 f2 f3 f4
      have HU := Lib.hid hu
      clear hu
      by_cases he : e = 0
      · subst he
        have f5 : 5 ≤ n := f4 rfl
        have HST := Lib.hid (fun rest fin h => hH.out _ fin (FrAt.step p ⟨kd, ld⟩ n rest fin HU.out h))
        clear f4 hH HU
        go_wp2_with fail
        refine (C.out _).mono ?_
        rintro _ w1 ⟨rfl, hb1⟩
        dsimp only
        have ho1 := (hown.ext hb1).alloc (.cells #[.int .u8 (kd.toNat : Int), str ld] 73)
        have hX1 : Ext w (w1.alloc (.cells #[.int .u8 (kd.toNat : Int), str ld] 73)) := (hX.trans' hb1).trans' (Ext.al _ _)
        clear hown hX hb1
        go_wp2_with (at_builtin; refine wpList_push Try.atsOf rfl _ _ rfl ((p, ⟨kd, ld⟩) : Nat × Frm) rfl ho1 rfl (by first | rfl | (simp; done) | (simp; rfl)) rfl (AtC_len _) (AtC_one _) (by omega) (by omega) hX1.size ?_)
        rintro A' c' w10 hown' hg
        have hX2 := ho1.below_push hX1 (Nat.le_refl _) hX1.size hg
        go_wp2
        exact ⟨⟨pre ++ [(p, ⟨kd, ld⟩)], p + n, A', c', by simp, by simp, by omega, by simp; omega, fun rest fin h => by rw [List.append_assoc]; exact HST.out rest fin h, hown', hX2⟩, by simp [intOf]; omega⟩
      · have hne : ((e : Int) != 0) = true := by simp; omega
        have HST := Lib.hid (hH.out [] p (FrAt.stop p (by rw [HU.out]; exact he)))
        clear f4 hH
        go_wp2_with fail
        refine (C.out _).mono ?_
        rintro _ w1 ⟨rfl, hb1⟩
        dsimp only
        have hr1 := ((hown.ext hb1).alloc (.cells #[.int .u8 (kd.toNat : Int), str ld] 73)).row
        have hX1 : Ext w (w1.alloc (.cells #[.int .u8 (kd.toNat : Int), str ld] 73)) := (hX.trans' hb1).trans' (Ext.al _ _)
        go_wp2
        go_ret2
        have h := HST.out
        rw [List.append_nil] at h
        exact AllPost.mk h hr1 hX1
    · have hpl : p = s.length := by omega
      have HST := Lib.hid (hH.out [] p (FrAt.stop p (by rw [List.drop_of_length_le (by omega)]; simp [takeFrame])))
      clear hH hpl
      have HR := Lib.hid hown.row
      clear hown
      go_wp2
      go_ret2
      have h := HST.out
      rw [List.append_nil] at h
      exact AllPost.mk h HR.out hX
end Go.Proofs.Yteplpgknnlehnaa
