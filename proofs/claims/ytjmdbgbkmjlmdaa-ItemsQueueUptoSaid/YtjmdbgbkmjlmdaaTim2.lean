/- When something is tried again, or never (layer 17): the program's walk and the document's. -/
import Derived.Test.YtjmdbgbkmjlmdaaTim
namespace Go.Proofs.Ytjmdbgbkmjlmdaa
set_option linter.unusedSimpArgs false
set_option linter.unusedVariables false
open Go.RowKit

set_option maxRecDepth 100000 in
set_option maxHeartbeats 4000000 in
theorem again_any (o : OptV) (ho : o.May) (attempt code frm now : Int) (ha : T62 attempt) (hf : T62 frm) (hn : T62 now) (w : World) :
    Calls Try.prog 63 #[.agg o.cells, iv attempt, iv code, iv frm, iv now] w fun e w' => e = .returned (.tuple #[iv (againOf o attempt code frm now).1, .bool (againOf o attempt code frm now).2]) ∧ Ext w w' := by
  have HW := Lib.hid (fun w => wait_any o ho attempt ha w)
  obtain ⟨w0, w1⟩ := waitOf_facts ho attempt
  obtain ⟨x, hx⟩ : ∃ x, waitOf o attempt = x := ⟨_, rfl⟩
  rw [hx] at HW w0 w1
  have htot := ho.total
  have HA : Hid (∀ r : Int × Bool, r = (if (decide (o.never ≠ 0) && decide (code = o.never)) || (decide (o.tries ≠ 0) && decide (o.tries ≤ attempt)) || (decide (o.total ≠ 0) && decide (frm + o.total ≤ now + x)) then (0, false) else (now + x, true)) → againOf o attempt code frm now = r) := fun r hr => by
    rw [hr]; unfold againOf over17; rw [hx]
  obtain ⟨ha1, ha2⟩ := ha
  obtain ⟨hf1, hf2⟩ := hf
  obtain ⟨hn1, hn2⟩ := hn
  clear hx ho
  obtain ⟨oq, os, oc, tot, ob, of_, onu, od, om, tr, nv⟩ := o
  dsimp only [OptV.cells] at *
  go_enter Try.func63, Try.ntmps63
  by_cases n1 : nv = 0
  · subst n1
    by_cases s1 : tr = 0
    · subst s1
      by_cases t1 : tot = 0
      · subst t1
        go_wp2_with (go_at_call 75; refine (HW.out _).mono ?_; rintro e w1 ⟨rfl, hb1⟩; obtain ⟨hc1, -⟩ := bcell hb1; have hz1 := hb1.size; simp at hz1)
        go_ret2
        refine ⟨?_, by (repeat (first | exact Below.refl _ _ | refine Ext.trans' ?_ (Ext.al _ _) | refine Ext.trans' ?_ (Ext.dr _) | refine Ext.trans' ?_ (by assumption)))⟩
        rw [HA.out _ rfl]
        first | (simp [*]; done) | (simp [*]; first | (rw [if_neg (by omega)]; exact ⟨rfl, rfl⟩) | (rw [if_pos (by omega)]; exact ⟨rfl, rfl⟩))
      · have t2 : (tot != (0 : Int)) = true := by simpa using t1
        by_cases t3 : frm + tot ≤ now + x
        · skip
          go_wp2_with (go_at_call 75; refine (HW.out _).mono ?_; rintro e w1 ⟨rfl, hb1⟩; obtain ⟨hc1, -⟩ := bcell hb1; have hz1 := hb1.size; simp at hz1)
          go_ret2
          refine ⟨?_, by (repeat (first | exact Below.refl _ _ | refine Ext.trans' ?_ (Ext.al _ _) | refine Ext.trans' ?_ (Ext.dr _) | refine Ext.trans' ?_ (by assumption)))⟩
          rw [HA.out _ rfl]
          first | (simp [*]; done) | (simp [*]; first | (rw [if_neg (by omega)]; exact ⟨rfl, rfl⟩) | (rw [if_pos (by omega)]; exact ⟨rfl, rfl⟩))
        · have t4 : ¬ (frm + tot ≤ now + x) := t3
          go_wp2_with (go_at_call 75; refine (HW.out _).mono ?_; rintro e w1 ⟨rfl, hb1⟩; obtain ⟨hc1, -⟩ := bcell hb1; have hz1 := hb1.size; simp at hz1)
          go_ret2
          refine ⟨?_, by (repeat (first | exact Below.refl _ _ | refine Ext.trans' ?_ (Ext.al _ _) | refine Ext.trans' ?_ (Ext.dr _) | refine Ext.trans' ?_ (by assumption)))⟩
          rw [HA.out _ rfl]
          first | (simp [*]; done) | (simp [*]; first | (rw [if_neg (by omega)]; exact ⟨rfl, rfl⟩) | (rw [if_pos (by omega)]; exact ⟨rfl, rfl⟩))
    · have s2 : (tr != (0 : Int)) = true := by simpa using s1
      by_cases s3 : tr ≤ attempt
      · skip
        go_wp2_with (go_at_call 75; refine (HW.out _).mono ?_; rintro e w1 ⟨rfl, hb1⟩; obtain ⟨hc1, -⟩ := bcell hb1; have hz1 := hb1.size; simp at hz1)
        go_ret2
        refine ⟨?_, by (repeat (first | exact Below.refl _ _ | refine Ext.trans' ?_ (Ext.al _ _) | refine Ext.trans' ?_ (Ext.dr _) | refine Ext.trans' ?_ (by assumption)))⟩
        rw [HA.out _ rfl]
        first | (simp [*]; done) | (simp [*]; first | (rw [if_neg (by omega)]; exact ⟨rfl, rfl⟩) | (rw [if_pos (by omega)]; exact ⟨rfl, rfl⟩))
      · skip
        by_cases t1 : tot = 0
        · subst t1
          go_wp2_with (go_at_call 75; refine (HW.out _).mono ?_; rintro e w1 ⟨rfl, hb1⟩; obtain ⟨hc1, -⟩ := bcell hb1; have hz1 := hb1.size; simp at hz1)
          go_ret2
          refine ⟨?_, by (repeat (first | exact Below.refl _ _ | refine Ext.trans' ?_ (Ext.al _ _) | refine Ext.trans' ?_ (Ext.dr _) | refine Ext.trans' ?_ (by assumption)))⟩
          rw [HA.out _ rfl]
          first | (simp [*]; done) | (simp [*]; first | (rw [if_neg (by omega)]; exact ⟨rfl, rfl⟩) | (rw [if_pos (by omega)]; exact ⟨rfl, rfl⟩))
        · have t2 : (tot != (0 : Int)) = true := by simpa using t1
          by_cases t3 : frm + tot ≤ now + x
          · skip
            go_wp2_with (go_at_call 75; refine (HW.out _).mono ?_; rintro e w1 ⟨rfl, hb1⟩; obtain ⟨hc1, -⟩ := bcell hb1; have hz1 := hb1.size; simp at hz1)
            go_ret2
            refine ⟨?_, by (repeat (first | exact Below.refl _ _ | refine Ext.trans' ?_ (Ext.al _ _) | refine Ext.trans' ?_ (Ext.dr _) | refine Ext.trans' ?_ (by assumption)))⟩
            rw [HA.out _ rfl]
            first | (simp [*]; done) | (simp [*]; first | (rw [if_neg (by omega)]; exact ⟨rfl, rfl⟩) | (rw [if_pos (by omega)]; exact ⟨rfl, rfl⟩))
          · have t4 : ¬ (frm + tot ≤ now + x) := t3
            go_wp2_with (go_at_call 75; refine (HW.out _).mono ?_; rintro e w1 ⟨rfl, hb1⟩; obtain ⟨hc1, -⟩ := bcell hb1; have hz1 := hb1.size; simp at hz1)
            go_ret2
            refine ⟨?_, by (repeat (first | exact Below.refl _ _ | refine Ext.trans' ?_ (Ext.al _ _) | refine Ext.trans' ?_ (Ext.dr _) | refine Ext.trans' ?_ (by assumption)))⟩
            rw [HA.out _ rfl]
            first | (simp [*]; done) | (simp [*]; first | (rw [if_neg (by omega)]; exact ⟨rfl, rfl⟩) | (rw [if_pos (by omega)]; exact ⟨rfl, rfl⟩))
  · have n2 : (nv != (0 : Int)) = true := by simpa using n1
    by_cases n3 : code = nv
    · subst n3
      go_wp2_with (go_at_call 75; refine (HW.out _).mono ?_; rintro e w1 ⟨rfl, hb1⟩; obtain ⟨hc1, -⟩ := bcell hb1; have hz1 := hb1.size; simp at hz1)
      go_ret2
      refine ⟨?_, by (repeat (first | exact Below.refl _ _ | refine Ext.trans' ?_ (Ext.al _ _) | refine Ext.trans' ?_ (Ext.dr _) | refine Ext.trans' ?_ (by assumption)))⟩
      rw [HA.out _ rfl]
      first | (simp [*]; done) | (simp [*]; first | (rw [if_neg (by omega)]; exact ⟨rfl, rfl⟩) | (rw [if_pos (by omega)]; exact ⟨rfl, rfl⟩))
    · have n4 : (code == nv) = false := by simpa using n3
      by_cases s1 : tr = 0
      · subst s1
        by_cases t1 : tot = 0
        · subst t1
          go_wp2_with (go_at_call 75; refine (HW.out _).mono ?_; rintro e w1 ⟨rfl, hb1⟩; obtain ⟨hc1, -⟩ := bcell hb1; have hz1 := hb1.size; simp at hz1)
          go_ret2
          refine ⟨?_, by (repeat (first | exact Below.refl _ _ | refine Ext.trans' ?_ (Ext.al _ _) | refine Ext.trans' ?_ (Ext.dr _) | refine Ext.trans' ?_ (by assumption)))⟩
          rw [HA.out _ rfl]
          first | (simp [*]; done) | (simp [*]; first | (rw [if_neg (by omega)]; exact ⟨rfl, rfl⟩) | (rw [if_pos (by omega)]; exact ⟨rfl, rfl⟩))
        · have t2 : (tot != (0 : Int)) = true := by simpa using t1
          by_cases t3 : frm + tot ≤ now + x
          · skip
            go_wp2_with (go_at_call 75; refine (HW.out _).mono ?_; rintro e w1 ⟨rfl, hb1⟩; obtain ⟨hc1, -⟩ := bcell hb1; have hz1 := hb1.size; simp at hz1)
            go_ret2
            refine ⟨?_, by (repeat (first | exact Below.refl _ _ | refine Ext.trans' ?_ (Ext.al _ _) | refine Ext.trans' ?_ (Ext.dr _) | refine Ext.trans' ?_ (by assumption)))⟩
            rw [HA.out _ rfl]
            first | (simp [*]; done) | (simp [*]; first | (rw [if_neg (by omega)]; exact ⟨rfl, rfl⟩) | (rw [if_pos (by omega)]; exact ⟨rfl, rfl⟩))
          · have t4 : ¬ (frm + tot ≤ now + x) := t3
            go_wp2_with (go_at_call 75; refine (HW.out _).mono ?_; rintro e w1 ⟨rfl, hb1⟩; obtain ⟨hc1, -⟩ := bcell hb1; have hz1 := hb1.size; simp at hz1)
            go_ret2
            refine ⟨?_, by (repeat (first | exact Below.refl _ _ | refine Ext.trans' ?_ (Ext.al _ _) | refine Ext.trans' ?_ (Ext.dr _) | refine Ext.trans' ?_ (by assumption)))⟩
            rw [HA.out _ rfl]
            first | (simp [*]; done) | (simp [*]; first | (rw [if_neg (by omega)]; exact ⟨rfl, rfl⟩) | (rw [if_pos (by omega)]; exact ⟨rfl, rfl⟩))
      · have s2 : (tr != (0 : Int)) = true := by simpa using s1
        by_cases s3 : tr ≤ attempt
        · skip
          go_wp2_with (go_at_call 75; refine (HW.out _).mono ?_; rintro e w1 ⟨rfl, hb1⟩; obtain ⟨hc1, -⟩ := bcell hb1; have hz1 := hb1.size; simp at hz1)
          go_ret2
          refine ⟨?_, by (repeat (first | exact Below.refl _ _ | refine Ext.trans' ?_ (Ext.al _ _) | refine Ext.trans' ?_ (Ext.dr _) | refine Ext.trans' ?_ (by assumption)))⟩
          rw [HA.out _ rfl]
          first | (simp [*]; done) | (simp [*]; first | (rw [if_neg (by omega)]; exact ⟨rfl, rfl⟩) | (rw [if_pos (by omega)]; exact ⟨rfl, rfl⟩))
        · skip
          by_cases t1 : tot = 0
          · subst t1
            go_wp2_with (go_at_call 75; refine (HW.out _).mono ?_; rintro e w1 ⟨rfl, hb1⟩; obtain ⟨hc1, -⟩ := bcell hb1; have hz1 := hb1.size; simp at hz1)
            go_ret2
            refine ⟨?_, by (repeat (first | exact Below.refl _ _ | refine Ext.trans' ?_ (Ext.al _ _) | refine Ext.trans' ?_ (Ext.dr _) | refine Ext.trans' ?_ (by assumption)))⟩
            rw [HA.out _ rfl]
            first | (simp [*]; done) | (simp [*]; first | (rw [if_neg (by omega)]; exact ⟨rfl, rfl⟩) | (rw [if_pos (by omega)]; exact ⟨rfl, rfl⟩))
          · have t2 : (tot != (0 : Int)) = true := by simpa using t1
            by_cases t3 : frm + tot ≤ now + x
            · skip
              go_wp2_with (go_at_call 75; refine (HW.out _).mono ?_; rintro e w1 ⟨rfl, hb1⟩; obtain ⟨hc1, -⟩ := bcell hb1; have hz1 := hb1.size; simp at hz1)
              go_ret2
              refine ⟨?_, by (repeat (first | exact Below.refl _ _ | refine Ext.trans' ?_ (Ext.al _ _) | refine Ext.trans' ?_ (Ext.dr _) | refine Ext.trans' ?_ (by assumption)))⟩
              rw [HA.out _ rfl]
              first | (simp [*]; done) | (simp [*]; first | (rw [if_neg (by omega)]; exact ⟨rfl, rfl⟩) | (rw [if_pos (by omega)]; exact ⟨rfl, rfl⟩))
            · have t4 : ¬ (frm + tot ≤ now + x) := t3
              go_wp2_with (go_at_call 75; refine (HW.out _).mono ?_; rintro e w1 ⟨rfl, hb1⟩; obtain ⟨hc1, -⟩ := bcell hb1; have hz1 := hb1.size; simp at hz1)
              go_ret2
              refine ⟨?_, by (repeat (first | exact Below.refl _ _ | refine Ext.trans' ?_ (Ext.al _ _) | refine Ext.trans' ?_ (Ext.dr _) | refine Ext.trans' ?_ (by assumption)))⟩
              rw [HA.out _ rfl]
              first | (simp [*]; done) | (simp [*]; first | (rw [if_neg (by omega)]; exact ⟨rfl, rfl⟩) | (rw [if_pos (by omega)]; exact ⟨rfl, rfl⟩))
set_option maxRecDepth 100000 in
set_option maxHeartbeats 4000000 in
theorem again_ref (o : OptV) (ho : o.May) (attempt code frm now : Int) (ha : T62 attempt) (hf : T62 frm) (hn : T62 now) (w : World) :
    Calls Try.prog 64 #[.agg o.cells, iv attempt, iv code, iv frm, iv now] w fun e w' => e = .returned (.tuple #[iv (againOf o attempt code frm now).1, .bool (againOf o attempt code frm now).2]) ∧ Ext w w' := by
  have HW := Lib.hid (fun w => wait_ref o ho attempt ha w)
  obtain ⟨w0, w1⟩ := waitOf_facts ho attempt
  obtain ⟨x, hx⟩ : ∃ x, waitOf o attempt = x := ⟨_, rfl⟩
  rw [hx] at HW w0 w1
  have htot := ho.total
  have HA : Hid (∀ r : Int × Bool, r = (if (decide (o.never ≠ 0) && decide (code = o.never)) || (decide (o.tries ≠ 0) && decide (o.tries ≤ attempt)) || (decide (o.total ≠ 0) && decide (frm + o.total ≤ now + x)) then (0, false) else (now + x, true)) → againOf o attempt code frm now = r) := fun r hr => by
    rw [hr]; unfold againOf over17; rw [hx]
  obtain ⟨ha1, ha2⟩ := ha
  obtain ⟨hf1, hf2⟩ := hf
  obtain ⟨hn1, hn2⟩ := hn
  clear hx ho
  obtain ⟨oq, os, oc, tot, ob, of_, onu, od, om, tr, nv⟩ := o
  dsimp only [OptV.cells] at *
  go_enter Try.func64, Try.ntmps64
  by_cases n1 : nv = 0
  · subst n1
    by_cases s1 : tr = 0
    · subst s1
      by_cases t1 : tot = 0
      · subst t1
        go_wp2_with (go_at_call 76; refine (HW.out _).mono ?_; rintro e w1 ⟨rfl, hb1⟩; obtain ⟨hc1, -⟩ := bcell hb1; have hz1 := hb1.size; simp at hz1)
        go_ret2
        refine ⟨?_, by (repeat (first | exact Below.refl _ _ | refine Ext.trans' ?_ (Ext.al _ _) | refine Ext.trans' ?_ (Ext.dr _) | refine Ext.trans' ?_ (by assumption)))⟩
        rw [HA.out _ rfl]
        first | (simp [*]; done) | (simp [*]; first | (rw [if_neg (by omega)]; exact ⟨rfl, rfl⟩) | (rw [if_pos (by omega)]; exact ⟨rfl, rfl⟩))
      · have t2 : (tot != (0 : Int)) = true := by simpa using t1
        by_cases t3 : frm + tot ≤ now + x
        · skip
          go_wp2_with (go_at_call 76; refine (HW.out _).mono ?_; rintro e w1 ⟨rfl, hb1⟩; obtain ⟨hc1, -⟩ := bcell hb1; have hz1 := hb1.size; simp at hz1)
          go_ret2
          refine ⟨?_, by (repeat (first | exact Below.refl _ _ | refine Ext.trans' ?_ (Ext.al _ _) | refine Ext.trans' ?_ (Ext.dr _) | refine Ext.trans' ?_ (by assumption)))⟩
          rw [HA.out _ rfl]
          first | (simp [*]; done) | (simp [*]; first | (rw [if_neg (by omega)]; exact ⟨rfl, rfl⟩) | (rw [if_pos (by omega)]; exact ⟨rfl, rfl⟩))
        · have t4 : ¬ (frm + tot ≤ now + x) := t3
          go_wp2_with (go_at_call 76; refine (HW.out _).mono ?_; rintro e w1 ⟨rfl, hb1⟩; obtain ⟨hc1, -⟩ := bcell hb1; have hz1 := hb1.size; simp at hz1)
          go_ret2
          refine ⟨?_, by (repeat (first | exact Below.refl _ _ | refine Ext.trans' ?_ (Ext.al _ _) | refine Ext.trans' ?_ (Ext.dr _) | refine Ext.trans' ?_ (by assumption)))⟩
          rw [HA.out _ rfl]
          first | (simp [*]; done) | (simp [*]; first | (rw [if_neg (by omega)]; exact ⟨rfl, rfl⟩) | (rw [if_pos (by omega)]; exact ⟨rfl, rfl⟩))
    · have s2 : (tr != (0 : Int)) = true := by simpa using s1
      by_cases s3 : tr ≤ attempt
      · skip
        go_wp2_with (go_at_call 76; refine (HW.out _).mono ?_; rintro e w1 ⟨rfl, hb1⟩; obtain ⟨hc1, -⟩ := bcell hb1; have hz1 := hb1.size; simp at hz1)
        go_ret2
        refine ⟨?_, by (repeat (first | exact Below.refl _ _ | refine Ext.trans' ?_ (Ext.al _ _) | refine Ext.trans' ?_ (Ext.dr _) | refine Ext.trans' ?_ (by assumption)))⟩
        rw [HA.out _ rfl]
        first | (simp [*]; done) | (simp [*]; first | (rw [if_neg (by omega)]; exact ⟨rfl, rfl⟩) | (rw [if_pos (by omega)]; exact ⟨rfl, rfl⟩))
      · skip
        by_cases t1 : tot = 0
        · subst t1
          go_wp2_with (go_at_call 76; refine (HW.out _).mono ?_; rintro e w1 ⟨rfl, hb1⟩; obtain ⟨hc1, -⟩ := bcell hb1; have hz1 := hb1.size; simp at hz1)
          go_ret2
          refine ⟨?_, by (repeat (first | exact Below.refl _ _ | refine Ext.trans' ?_ (Ext.al _ _) | refine Ext.trans' ?_ (Ext.dr _) | refine Ext.trans' ?_ (by assumption)))⟩
          rw [HA.out _ rfl]
          first | (simp [*]; done) | (simp [*]; first | (rw [if_neg (by omega)]; exact ⟨rfl, rfl⟩) | (rw [if_pos (by omega)]; exact ⟨rfl, rfl⟩))
        · have t2 : (tot != (0 : Int)) = true := by simpa using t1
          by_cases t3 : frm + tot ≤ now + x
          · skip
            go_wp2_with (go_at_call 76; refine (HW.out _).mono ?_; rintro e w1 ⟨rfl, hb1⟩; obtain ⟨hc1, -⟩ := bcell hb1; have hz1 := hb1.size; simp at hz1)
            go_ret2
            refine ⟨?_, by (repeat (first | exact Below.refl _ _ | refine Ext.trans' ?_ (Ext.al _ _) | refine Ext.trans' ?_ (Ext.dr _) | refine Ext.trans' ?_ (by assumption)))⟩
            rw [HA.out _ rfl]
            first | (simp [*]; done) | (simp [*]; first | (rw [if_neg (by omega)]; exact ⟨rfl, rfl⟩) | (rw [if_pos (by omega)]; exact ⟨rfl, rfl⟩))
          · have t4 : ¬ (frm + tot ≤ now + x) := t3
            go_wp2_with (go_at_call 76; refine (HW.out _).mono ?_; rintro e w1 ⟨rfl, hb1⟩; obtain ⟨hc1, -⟩ := bcell hb1; have hz1 := hb1.size; simp at hz1)
            go_ret2
            refine ⟨?_, by (repeat (first | exact Below.refl _ _ | refine Ext.trans' ?_ (Ext.al _ _) | refine Ext.trans' ?_ (Ext.dr _) | refine Ext.trans' ?_ (by assumption)))⟩
            rw [HA.out _ rfl]
            first | (simp [*]; done) | (simp [*]; first | (rw [if_neg (by omega)]; exact ⟨rfl, rfl⟩) | (rw [if_pos (by omega)]; exact ⟨rfl, rfl⟩))
  · have n2 : (nv != (0 : Int)) = true := by simpa using n1
    by_cases n3 : code = nv
    · subst n3
      go_wp2_with (go_at_call 76; refine (HW.out _).mono ?_; rintro e w1 ⟨rfl, hb1⟩; obtain ⟨hc1, -⟩ := bcell hb1; have hz1 := hb1.size; simp at hz1)
      go_ret2
      refine ⟨?_, by (repeat (first | exact Below.refl _ _ | refine Ext.trans' ?_ (Ext.al _ _) | refine Ext.trans' ?_ (Ext.dr _) | refine Ext.trans' ?_ (by assumption)))⟩
      rw [HA.out _ rfl]
      first | (simp [*]; done) | (simp [*]; first | (rw [if_neg (by omega)]; exact ⟨rfl, rfl⟩) | (rw [if_pos (by omega)]; exact ⟨rfl, rfl⟩))
    · have n4 : (code == nv) = false := by simpa using n3
      by_cases s1 : tr = 0
      · subst s1
        by_cases t1 : tot = 0
        · subst t1
          go_wp2_with (go_at_call 76; refine (HW.out _).mono ?_; rintro e w1 ⟨rfl, hb1⟩; obtain ⟨hc1, -⟩ := bcell hb1; have hz1 := hb1.size; simp at hz1)
          go_ret2
          refine ⟨?_, by (repeat (first | exact Below.refl _ _ | refine Ext.trans' ?_ (Ext.al _ _) | refine Ext.trans' ?_ (Ext.dr _) | refine Ext.trans' ?_ (by assumption)))⟩
          rw [HA.out _ rfl]
          first | (simp [*]; done) | (simp [*]; first | (rw [if_neg (by omega)]; exact ⟨rfl, rfl⟩) | (rw [if_pos (by omega)]; exact ⟨rfl, rfl⟩))
        · have t2 : (tot != (0 : Int)) = true := by simpa using t1
          by_cases t3 : frm + tot ≤ now + x
          · skip
            go_wp2_with (go_at_call 76; refine (HW.out _).mono ?_; rintro e w1 ⟨rfl, hb1⟩; obtain ⟨hc1, -⟩ := bcell hb1; have hz1 := hb1.size; simp at hz1)
            go_ret2
            refine ⟨?_, by (repeat (first | exact Below.refl _ _ | refine Ext.trans' ?_ (Ext.al _ _) | refine Ext.trans' ?_ (Ext.dr _) | refine Ext.trans' ?_ (by assumption)))⟩
            rw [HA.out _ rfl]
            first | (simp [*]; done) | (simp [*]; first | (rw [if_neg (by omega)]; exact ⟨rfl, rfl⟩) | (rw [if_pos (by omega)]; exact ⟨rfl, rfl⟩))
          · have t4 : ¬ (frm + tot ≤ now + x) := t3
            go_wp2_with (go_at_call 76; refine (HW.out _).mono ?_; rintro e w1 ⟨rfl, hb1⟩; obtain ⟨hc1, -⟩ := bcell hb1; have hz1 := hb1.size; simp at hz1)
            go_ret2
            refine ⟨?_, by (repeat (first | exact Below.refl _ _ | refine Ext.trans' ?_ (Ext.al _ _) | refine Ext.trans' ?_ (Ext.dr _) | refine Ext.trans' ?_ (by assumption)))⟩
            rw [HA.out _ rfl]
            first | (simp [*]; done) | (simp [*]; first | (rw [if_neg (by omega)]; exact ⟨rfl, rfl⟩) | (rw [if_pos (by omega)]; exact ⟨rfl, rfl⟩))
      · have s2 : (tr != (0 : Int)) = true := by simpa using s1
        by_cases s3 : tr ≤ attempt
        · skip
          go_wp2_with (go_at_call 76; refine (HW.out _).mono ?_; rintro e w1 ⟨rfl, hb1⟩; obtain ⟨hc1, -⟩ := bcell hb1; have hz1 := hb1.size; simp at hz1)
          go_ret2
          refine ⟨?_, by (repeat (first | exact Below.refl _ _ | refine Ext.trans' ?_ (Ext.al _ _) | refine Ext.trans' ?_ (Ext.dr _) | refine Ext.trans' ?_ (by assumption)))⟩
          rw [HA.out _ rfl]
          first | (simp [*]; done) | (simp [*]; first | (rw [if_neg (by omega)]; exact ⟨rfl, rfl⟩) | (rw [if_pos (by omega)]; exact ⟨rfl, rfl⟩))
        · skip
          by_cases t1 : tot = 0
          · subst t1
            go_wp2_with (go_at_call 76; refine (HW.out _).mono ?_; rintro e w1 ⟨rfl, hb1⟩; obtain ⟨hc1, -⟩ := bcell hb1; have hz1 := hb1.size; simp at hz1)
            go_ret2
            refine ⟨?_, by (repeat (first | exact Below.refl _ _ | refine Ext.trans' ?_ (Ext.al _ _) | refine Ext.trans' ?_ (Ext.dr _) | refine Ext.trans' ?_ (by assumption)))⟩
            rw [HA.out _ rfl]
            first | (simp [*]; done) | (simp [*]; first | (rw [if_neg (by omega)]; exact ⟨rfl, rfl⟩) | (rw [if_pos (by omega)]; exact ⟨rfl, rfl⟩))
          · have t2 : (tot != (0 : Int)) = true := by simpa using t1
            by_cases t3 : frm + tot ≤ now + x
            · skip
              go_wp2_with (go_at_call 76; refine (HW.out _).mono ?_; rintro e w1 ⟨rfl, hb1⟩; obtain ⟨hc1, -⟩ := bcell hb1; have hz1 := hb1.size; simp at hz1)
              go_ret2
              refine ⟨?_, by (repeat (first | exact Below.refl _ _ | refine Ext.trans' ?_ (Ext.al _ _) | refine Ext.trans' ?_ (Ext.dr _) | refine Ext.trans' ?_ (by assumption)))⟩
              rw [HA.out _ rfl]
              first | (simp [*]; done) | (simp [*]; first | (rw [if_neg (by omega)]; exact ⟨rfl, rfl⟩) | (rw [if_pos (by omega)]; exact ⟨rfl, rfl⟩))
            · have t4 : ¬ (frm + tot ≤ now + x) := t3
              go_wp2_with (go_at_call 76; refine (HW.out _).mono ?_; rintro e w1 ⟨rfl, hb1⟩; obtain ⟨hc1, -⟩ := bcell hb1; have hz1 := hb1.size; simp at hz1)
              go_ret2
              refine ⟨?_, by (repeat (first | exact Below.refl _ _ | refine Ext.trans' ?_ (Ext.al _ _) | refine Ext.trans' ?_ (Ext.dr _) | refine Ext.trans' ?_ (by assumption)))⟩
              rw [HA.out _ rfl]
              first | (simp [*]; done) | (simp [*]; first | (rw [if_neg (by omega)]; exact ⟨rfl, rfl⟩) | (rw [if_pos (by omega)]; exact ⟨rfl, rfl⟩))
end Go.Proofs.Ytjmdbgbkmjlmdaa
