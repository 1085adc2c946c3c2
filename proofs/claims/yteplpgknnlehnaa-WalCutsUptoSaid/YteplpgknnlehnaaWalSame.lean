/- Batches held against each other (layer 5). -/
import Derived.Test.YteplpgknnlehnaaWalRep2
namespace Go.Proofs.Yteplpgknnlehnaa
set_option linter.unusedSimpArgs false
set_option linter.unusedVariables false
open Go.RowKit

/-- batches that lie somewhere -/
def BatsR (w : World) (A : Option Addr) (L : List LB) : Prop := Row w 0 w.heap.size 2 A L.length (L.flatMap LB.cells) ∧ ∀ q ∈ L, Row w 0 w.heap.size 3 q.A q.b.puts.length (q.b.puts.flatMap Put.cells)
theorem BatsR.ext {w w' : World} {A : Option Addr} {L : List LB} (h : BatsR w A L) (hb : Ext w w') : BatsR w' A L :=
  ⟨(h.1.below hb (Nat.le_refl _)).wide (Nat.le_refl _) hb.size, fun q hq => ((h.2 q hq).below hb (Nat.le_refl _)).wide (Nat.le_refl _) hb.size⟩
theorem Bats.plain {w : World} {B : Nat} {A : Option Addr} {c : Nat} {L : List LB} (h : Bats w B A c L) : BatsR w A L :=
  ⟨h.1.row.wide (Nat.zero_le _) (Nat.le_refl _), fun q hq => (h.2 q hq).1.1.wide (Nat.zero_le _) (h.2 q hq).1.2.2⟩

set_option maxRecDepth 100000 in
set_option maxHeartbeats 800000 in
theorem sameBatches_yes (L1 L2 : List LB) (he : L1.map LB.b = L2.map LB.b) (h1 : L1.length ≤ 1099511627776) (hp : ∀ q ∈ L1, q.b.puts.length ≤ 1099511627776) (A1 A2 : Option Addr) (c1 c2 : Nat) (w : World) (hr1 : BatsR w A1 L1) (hr2 : BatsR w A2 L2) :
    Calls Try.prog 30 #[.slice A1 L1.length c1, .slice A2 L2.length c2] w fun e w' => e = .returned (.bool true) ∧ Ext w w' := by
  have hlen : L1.length = L2.length := by have := congrArg List.length he; simpa using this
  have HR1 := Lib.hid (fun w' hb => BatsR.ext (w' := w') hr1 hb)
  have HR2 := Lib.hid (fun w' hb => BatsR.ext (w' := w') hr2 hb)
  have HE := Lib.hid he
  have HP := Lib.hid hp
  have hb : ((L1.length : Int) != (L2.length : Int)) = false := by simp [hlen]
  have HL := Lib.hid hlen
  clear hr1 hr2 he hp hlen
  go_enter Try.func30, Try.ntmps30
  go_wp2_with fail
  go_loopw [5] (fun i wr => ∃ k : Nat, k ≤ L1.length ∧ i = .int .i64 k ∧ Ext w wr) (fun i _ => L1.length - (intOf i).toNat)
  · exact ⟨0, by simp, rfl, Below.refl _ _⟩
  · obtain ⟨k, hk, rfl, hX⟩ := hrel
    by_cases hlt : k < L1.length
    · have hlen := HL.out
      obtain ⟨p, hpe⟩ : ∃ p, L1[k]? = some p := ⟨L1[k], List.getElem?_eq_getElem hlt⟩
      obtain ⟨q, hqe⟩ : ∃ q, L2[k]? = some q := ⟨L2[k]'(by omega), List.getElem?_eq_getElem (by omega)⟩
      have hlt2 : k < L2.length := by omega
      have hbb : p.b = q.b := by
        have h := congrArg (fun l => l[k]?) HE.out
        simp only [List.getElem?_map, hpe, hqe, Option.map_some] at h
        exact Option.some.inj h
      have k1 := HR1.out _ hX
      have k2 := HR2.out _ hX
      obtain ⟨b1, o1, rfl, -, hbw1, hc1⟩ := k1.1.elem LB.cells_len rfl hpe
      obtain ⟨b2, o2, rfl, -, hbw2, hc2⟩ := k2.1.elem LB.cells_len rfl hqe
      have a0 := hc1 0 _ rfl
      have a1 := hc1 1 _ rfl
      have e0 := hc2 0 _ rfl
      have e1 := hc2 1 _ rfl
      rw [Nat.add_zero] at a0 e0
      have m1 := k1.2 p (List.mem_of_getElem? hpe)
      have m2 := k2.2 q (List.mem_of_getElem? hqe)
      have hpl := HP.out p (List.mem_of_getElem? hpe)
      obtain ⟨⟨sq, ps⟩, pA, pc, plo, phi⟩ := p
      obtain ⟨bq, qA, qc, qlo, qhi⟩ := q
      dsimp only at hbb
      subst hbb
      dsimp only at m1 m2 a0 a1 e0 e1 hpl
      have HS := Lib.hid (fun w hr1 hr2 => samePuts_any ps ps hpl hpl pA qA pc qc w hr1 hr2)
      rw [decide_eq_true (rfl : ps = ps)] at HS
      clear hc1 hc2 hpe hqe k1 k2 hlen
      go_wp2_with fail
      have i1 : (k : Int) < (L1.length : Int) := by omega
      have i2 : (k : Int) < (L2.length : Int) := by omega
      have i3 : (0 : Int) ≤ (k : Int) := by omega
      have d1 : Row wr.drew 0 wr.drew.heap.size 3 pA ps.length (ps.flatMap Put.cells) := m1.keep (w' := wr.drew) (fun _ _ _ => rfl)
      have d2 : Row wr.drew 0 wr.drew.heap.size 3 qA ps.length (ps.flatMap Put.cells) := m2.keep (w' := wr.drew) (fun _ _ _ => rfl)
      refine wp_region_sch (RS ((fun b => b = b1 ∨ b = b2))) 12 [(0, true), (1, true), (2, true), (3, true), (4, true), (5, true), (6, true), (7, true), (8, true), (9, true), (10, false), (11, true)] (by kernel_rfl) (by kernel_rfl) RS.refl RS.trans (fun _ _ d _ _ h => by cases d <;> exact h) ?_
      refine wpSch_q ?_ rfl rfl (fun w' hR => ?_) ?_
      rotate_left
      · (go_simp; first | rfl | rw [if_neg (by simp; omega)] | rw [if_neg (by omega)])
      (try simp only [Act.put, List.setIfInBounds_toArray, List.set_cons_zero, List.set_cons_succ])
      refine wpSch_q ?_ rfl rfl (fun w' hR => ?_) ?_
      rotate_left
      · (go_simp; first | rfl | rw [if_neg (by simp; omega)] | rw [if_neg (by omega)])
      (try simp only [Act.put, List.setIfInBounds_toArray, List.set_cons_zero, List.set_cons_succ])
      refine wpSch_q ?_ rfl rfl (fun w' hR => ?_) ?_
      rotate_left
      · (go_simp; first | rfl | rw [if_neg (by simp; omega)] | rw [if_neg (by omega)])
      (try simp only [Act.put, List.setIfInBounds_toArray, List.set_cons_zero, List.set_cons_succ])
      refine wpSch_q ?_ rfl rfl (fun w' hR => ?_) ?_
      rotate_left
      · (go_simp; first | rfl | rw [if_neg (by simp; omega)] | rw [if_neg (by omega)])
      (try simp only [Act.put, List.setIfInBounds_toArray, List.set_cons_zero, List.set_cons_succ])
      refine wpSch_q ?_ rfl rfl (fun w' hR => ?_) ?_
      rotate_left
      · (obtain ⟨hRs, hRc⟩ := hR; (try have hRd := fun o => hRc _ o rfl (by first | (simp; done) | (simp; omega) | omega)); (try have hRe := fun o => hRc _ o (Or.inl rfl) (by first | (simp; done) | (simp; omega) | omega)); (try have hRf := fun o => hRc _ o (Or.inr rfl) (by first | (simp; done) | (simp; omega) | omega)); go_simp; first | rfl | rw [if_neg (by simp; omega)] | rw [if_neg (by omega)])
      (try simp only [Act.put, List.setIfInBounds_toArray, List.set_cons_zero, List.set_cons_succ])
      refine wpSch_q ?_ rfl rfl (fun w' hR => ?_) ?_
      rotate_left
      · (go_simp; first | rfl | rw [if_neg (by simp; omega)] | rw [if_neg (by omega)])
      (try simp only [Act.put, List.setIfInBounds_toArray, List.set_cons_zero, List.set_cons_succ])
      refine wpSch_q ?_ rfl rfl (fun w' hR => ?_) ?_
      rotate_left
      · (go_simp; first | rfl | rw [if_neg (by simp; omega)] | rw [if_neg (by omega)])
      (try simp only [Act.put, List.setIfInBounds_toArray, List.set_cons_zero, List.set_cons_succ])
      refine wpSch_q ?_ rfl rfl (fun w' hR => ?_) ?_
      rotate_left
      · (go_simp; first | rfl | rw [if_neg (by simp; omega)] | rw [if_neg (by omega)])
      (try simp only [Act.put, List.setIfInBounds_toArray, List.set_cons_zero, List.set_cons_succ])
      refine wpSch_q ?_ rfl rfl (fun w' hR => ?_) ?_
      rotate_left
      · (go_simp; first | rfl | rw [if_neg (by simp; omega)] | rw [if_neg (by omega)])
      (try simp only [Act.put, List.setIfInBounds_toArray, List.set_cons_zero, List.set_cons_succ])
      refine wpSch_q ?_ rfl rfl (fun w' hR => ?_) ?_
      rotate_left
      · (obtain ⟨hRs, hRc⟩ := hR; (try have hRd := fun o => hRc _ o rfl (by first | (simp; done) | (simp; omega) | omega)); (try have hRe := fun o => hRc _ o (Or.inl rfl) (by first | (simp; done) | (simp; omega) | omega)); (try have hRf := fun o => hRc _ o (Or.inr rfl) (by first | (simp; done) | (simp; omega) | omega)); go_simp; first | rfl | rw [if_neg (by simp; omega)] | rw [if_neg (by omega)])
      (try simp only [Act.put, List.setIfInBounds_toArray, List.set_cons_zero, List.set_cons_succ])
      refine wpSch_e rfl rfl (fun K hK => ?_)
      go_simp
      refine (HS.out _ d1 d2).mono ?_
      rintro e w2 ⟨rfl, hb2⟩
      refine hK _ _ (fun _ => RS.ext hb2) ?_
      clear hK K
      (try simp only [Act.put, List.setIfInBounds_toArray, List.set_cons_zero, List.set_cons_succ])
      refine wpSch_q ?_ rfl rfl (fun w' hR => ?_) ?_
      rotate_left
      · (go_simp; first | rfl | rw [if_neg (by simp; omega)] | rw [if_neg (by omega)])
      (try simp only [Act.put, List.setIfInBounds_toArray, List.set_cons_zero, List.set_cons_succ])
      refine wpSch_nil ?_
      have hX2 : Ext w w2 := (hX.trans' (Ext.dr _)).trans' hb2
      have a0' := (hb2.cell (p := ⟨b1, o1 + k * 2, none⟩) hbw1).trans a0
      have e0' := (hb2.cell (p := ⟨b2, o2 + k * 2, none⟩) hbw2).trans e0
      clear a0 a1 e0 e1 m1 m2 d1 d2 hb2 hX
      go_wp2
      go_quiet (fail)
      go_wp2
      exact ⟨⟨k + 1, by omega, by simp, hX2.trans' (Fr.ext ((Fr.refl _).drewN _) (fun _ _ => trivial))⟩, by simp [intOf]; omega⟩
    · go_wp2
      go_ret
      exact ⟨rfl, hX⟩
end Go.Proofs.Yteplpgknnlehnaa
