/- Manifests (layer 10): edits held against each other; an edit held; the walk of the statement ManifestEncodes. -/
import Derived.Test.YteplpgknnlehnaaMan6
namespace Go.Proofs.Yteplpgknnlehnaa
set_option linter.unusedSimpArgs false
set_option linter.unusedVariables false
open Go.RowKit

theorem table_fields : (Try.prog.fieldsOf 53).toList = [⟨"Number", 22, 0, false, "", "", 0⟩, ⟨"Level", 3, 1, false, "", "", 8⟩, ⟨"Size", 3, 2, false, "", "", 16⟩, ⟨"Count", 3, 3, false, "", "", 24⟩,
  ⟨"Least", 9, 4, false, "", "", 32⟩, ⟨"Greatest", 9, 5, false, "", "", 48⟩] := by kernel_rfl

theorem table_neq (w : World) (t u : Table) : (binOp .neq 53 (.agg #[.int .u64 t.num, .int .i64 t.level, .int .i64 t.size, .int .i64 t.count, str t.least, str t.great])
    (.agg #[.int .u64 u.num, .int .i64 u.level, .int .i64 u.size, .int .i64 u.count, str u.least, str u.great])).run Try.prog w = .ok (.bool (!decide (t = u))) w := by
  have ht : Try.prog.underlying 53 = some (.struct (Try.prog.fieldsOf 53)) := by kernel_rfl
  have hp : Try.prog.stoodInHeld 53 = false := by kernel_rfl
  rw [run_neq_struct, run_equalIn_struct w 9999 _ _ _ ht hp, table_fields]
  obtain ⟨n, lv, sz, ct, a, b⟩ := t
  obtain ⟨n', lv', sz', ct', a', b'⟩ := u
  simp [go_sem, Op.eqFields]
  (repeat' split) <;> simp_all <;> (try omega)

theorem take_all_eq {α : Type} {a b : List α} {k : Nat} (h : a.take k = b.take k) (ha : a.length ≤ k) (hb : b.length ≤ k) : a = b := by
  rwa [List.take_of_length_le ha, List.take_of_length_le hb] at h

set_option maxRecDepth 100000 in
set_option maxHeartbeats 800000 in
theorem sameTables_any (l1 l2 : List Table) (h1 : l1.length ≤ 1099511627776) (h2 : l2.length ≤ 1099511627776) (A1 A2 : Option Addr) (c1 c2 : Nat) (w : World)
    (hr1 : Row w 0 w.heap.size 6 A1 l1.length (l1.flatMap Table.cells)) (hr2 : Row w 0 w.heap.size 6 A2 l2.length (l2.flatMap Table.cells)) :
    Calls Try.prog 53 #[.slice A1 l1.length c1, .slice A2 l2.length c2] w fun e w' => e = .returned (.bool (decide (l1 = l2))) ∧ Ext w w' := by
  by_cases hlen : l1.length = l2.length
  · have hb : ((l1.length : Int) != (l2.length : Int)) = false := by simp [hlen]
    go_enter Try.func53, Try.ntmps53
    go_wp2
    go_loopw [5] (fun i wr => ∃ k : Nat, k ≤ l1.length ∧ i = .int .i64 k ∧ Hid (l1.take k = l2.take k) ∧ Ext w wr) (fun i _ => l1.length - (intOf i).toNat)
    · exact ⟨0, by simp, rfl, by simp [Hid], Below.refl _ _⟩
    · obtain ⟨k, hk, rfl, hall, hE⟩ := hrel
      by_cases hlt : k < l1.length
      · obtain ⟨p, hp⟩ : ∃ p, l1[k]? = some p := ⟨l1[k], List.getElem?_eq_getElem hlt⟩
        obtain ⟨q, hq⟩ : ∃ q, l2[k]? = some q := ⟨l2[k]'(by omega), List.getElem?_eq_getElem (by omega)⟩
        obtain ⟨b1, off1, rfl, -, hbw1, hc1⟩ := (hr1.below hE (Nat.le_refl _)).elem Table.cells_len rfl hp
        obtain ⟨b2, off2, rfl, -, hbw2, hc2⟩ := (hr2.below hE (Nat.le_refl _)).elem Table.cells_len rfl hq
        have a0 := hc1 0 _ rfl
        have a1 := hc1 1 _ rfl
        have a2 := hc1 2 _ rfl
        have a3 := hc1 3 _ rfl
        have a4 := hc1 4 _ rfl
        have a5 := hc1 5 _ rfl
        have e0 := hc2 0 _ rfl
        have e1 := hc2 1 _ rfl
        have e2 := hc2 2 _ rfl
        have e3 := hc2 3 _ rfl
        have e4 := hc2 4 _ rfl
        have e5 := hc2 5 _ rfl
        rw [Nat.add_zero] at a0 e0
        have hlt2 : k < l2.length := by omega
        have HP := Lib.hid hp
        have HQ := Lib.hid hq
        have HL := Lib.hid hlen
        clear hc1 hc2 hr1 hr2 hp hq hlen
        have hne := fun w => table_neq w p q
        obtain ⟨k1, v1, s1, t1, x1, y1⟩ := p
        obtain ⟨k2, v2, s2, t2, x2, y2⟩ := q
        dsimp only at *
        by_cases heq : (⟨k1, v1, s1, t1, x1, y1⟩ : Table) = ⟨k2, v2, s2, t2, x2, y2⟩
        · rw [decide_eq_true heq] at hne
          have HEQ := Lib.hid heq
          clear heq
          go_wp2
          go_quiet (fail)
          go_wp2
          refine ⟨⟨k + 1, by omega, by simp, ?_, by have := hE; exact Below.trans hE (below_drewN' _ _)⟩, by simp [intOf]; omega⟩
          unfold Hid
          rw [List.take_add_one, List.take_add_one, hall.out, HP.out, HQ.out, HEQ.out]
        · rw [decide_eq_false heq] at hne
          have HEQ := Lib.hid heq
          clear heq
          go_wp2
          go_quiet (fail)
          go_wp2
          go_ret
          have hd : decide (l1 = l2) = false := by
            apply decide_eq_false
            rintro rfl
            have := HP.out.symm.trans HQ.out
            exact HEQ.out (Option.some.inj this)
          exact ⟨by rw [hd]; rfl, Below.trans hE (below_drewN' _ _)⟩
      · go_wp2
        go_ret
        have hd : decide (l1 = l2) = true := decide_eq_true (take_all_eq hall.out (by omega) (by omega))
        exact ⟨by rw [hd]; rfl, hE⟩
  · have hb : ((l1.length : Int) != (l2.length : Int)) = true := by simp; omega
    have hd : decide (l1 = l2) = false := by
      apply decide_eq_false
      rintro rfl
      exact hlen rfl
    rw [hd]
    go_enter Try.func53, Try.ntmps53
    go_wp2
    go_ret
    exact ⟨rfl, Below.refl _ _⟩

set_option maxRecDepth 100000 in
set_option maxHeartbeats 800000 in
theorem sameEdit_any (x y : Edit) (h1 : x.add.length ≤ 1048576) (h2 : y.add.length ≤ 1048576) (h3 : x.drop.length ≤ 1048576) (h4 : y.drop.length ≤ 1048576) (A1 A1' A2 A2' : Option Addr) (c1 c1' c2 c2' : Nat) (w : World)
    (hr1 : EditAt w w.heap.size x A1 A1') (hr2 : EditAt w w.heap.size y A2 A2') :
    Calls Try.prog 20 #[x.val A1 A1' c1 c1', y.val A2 A2' c2 c2'] w fun e w' => e = .returned (.bool (decide (x = y))) ∧ Ext w w' := by
  have HR1 := Lib.hid (fun w' hb => EditAt.ext (w' := w') hr1 hb)
  have HR2 := Lib.hid (fun w' hb => EditAt.ext (w' := w') hr2 hb)
  clear hr1 hr2
  obtain ⟨n, s, g, l, d⟩ := x
  obtain ⟨n', s', g', l', d'⟩ := y
  dsimp only [Edit.val] at *
  have HT := Lib.hid (fun w hr1 hr2 => sameTables_any l l' (by omega) (by omega) A1 A2 c1 c2 w hr1 hr2)
  by_cases hlen : d.length = d'.length
  · have hb : ((d.length : Int) != (d'.length : Int)) = false := by simp [hlen]
    have HL := Lib.hid hlen
    clear hlen
    go_enter Try.func20, Try.ntmps20
    go_wp2
    (obtain ⟨w0, hw0⟩ : ∃ w0, w0 = World.alloc w (.cells #[.int .u64 n, .int .u64 s, .int .u64 g, .slice A1 l.length c1, .slice A1' d.length c1'] 35) := ⟨_, rfl⟩); (have hbox_w0 : Box w0 (w).heap.size 35 #[.int .u64 n, .int .u64 s, .int .u64 g, .slice A1 l.length c1, .slice A1' d.length c1'] := by rw [hw0]; exact Box.new _ _ _); (have hE_w0 : Ext w w0 := by rw [hw0]; exact Ext.al _ _); (have hz_w0 : (w0).heap.size = (w).heap.size + 1 := by rw [hw0]; simp); rw [← hw0]; clear hw0
    (obtain ⟨w1, hw1⟩ : ∃ w1, w1 = World.alloc w0 (.cells #[.int .u64 n', .int .u64 s', .int .u64 g', .slice A2 l'.length c2, .slice A2' d'.length c2'] 35) := ⟨_, rfl⟩); (have hbox_w1 : Box w1 (w0).heap.size 35 #[.int .u64 n', .int .u64 s', .int .u64 g', .slice A2 l'.length c2, .slice A2' d'.length c2'] := by rw [hw1]; exact Box.new _ _ _); (have hE_w1 : Ext w0 w1 := by rw [hw1]; exact Ext.al _ _); (have hz_w1 : (w1).heap.size = (w0).heap.size + 1 := by rw [hw1]; simp); rw [← hw1]; clear hw1
    have hbx := hbox_w0.ext hE_w1
    rw [hz_w0] at hbox_w1
    have hE0 := hE_w0.trans' hE_w1
    clear hbox_w0 hE_w0 hE_w1
    go_loopw [5] (fun i wr => ∃ k : Nat, k ≤ d.length ∧ i = .int .i64 k ∧ Hid (d.take k = d'.take k) ∧ Ext w1 wr) (fun i _ => d.length - (intOf i).toNat)
    · exact ⟨0, by simp, rfl, by simp [Hid], Below.refl _ _⟩
    · obtain ⟨k, hk, rfl, hall, hE⟩ := hrel
      have hlen := HL.out
      have x0 := (hbx.ext hE).cell 0
      have x1 := (hbx.ext hE).cell 1
      have x2 := (hbx.ext hE).cell 2
      have x3 := (hbx.ext hE).cell 3
      have x4 := (hbx.ext hE).cell 4
      have y0 := (hbox_w1.ext hE).cell 0
      have y1 := (hbox_w1.ext hE).cell 1
      have y2 := (hbox_w1.ext hE).cell 2
      have y3 := (hbox_w1.ext hE).cell 3
      have y4 := (hbox_w1.ext hE).cell 4
      simp at x0 x1 x2 x3 x4 y0 y1 y2 y3 y4
      by_cases hlt : k < d.length
      · obtain ⟨p, hp⟩ : ∃ p, d[k]? = some p := ⟨d[k], List.getElem?_eq_getElem hlt⟩
        obtain ⟨q, hq⟩ : ∃ q, d'[k]? = some q := ⟨d'[k]'(by omega), List.getElem?_eq_getElem (by omega)⟩
        obtain ⟨b1, off1, rfl, -, hbw1, hc1⟩ := (HR1.out _ (hE0.trans' hE)).drop.elem u64C_len rfl hp
        obtain ⟨b2, off2, rfl, -, hbw2, hc2⟩ := (HR2.out _ (hE0.trans' hE)).drop.elem u64C_len rfl hq
        have a0 := hc1 0 _ rfl
        have e0 := hc2 0 _ rfl
        rw [Nat.add_zero, Nat.mul_one] at a0 e0
        have hlt2 : k < d'.length := by omega
        have HP := Lib.hid hp
        have HQ := Lib.hid hq
        clear hc1 hc2 hp hq hlen
        by_cases heq : p = q
        · have hne : ((p : Int) != (q : Int)) = false := by simp [heq]
          have HEQ := Lib.hid heq
          clear heq
          go_wp2
          go_quiet (fail)
          go_wp2
          refine ⟨⟨k + 1, by omega, by simp, ?_, by have := hE; exact Below.trans hE (below_drewN' _ _)⟩, by simp [intOf]; omega⟩
          unfold Hid
          rw [List.take_add_one, List.take_add_one, hall.out, HP.out, HQ.out, HEQ.out]
        · have hne : ((p : Int) != (q : Int)) = true := by simp; omega
          have HEQ := Lib.hid heq
          clear heq
          go_wp2
          go_quiet (fail)
          go_wp2
          go_ret
          have hd : decide ((⟨n, s, g, l, d⟩ : Edit) = ⟨n', s', g', l', d'⟩) = false := by
            apply decide_eq_false
            intro h
            injection h with _ _ _ _ h
            subst h
            exact HEQ.out (Option.some.inj (HP.out.symm.trans HQ.out))
          exact ⟨by rw [hd]; rfl, Below.trans (hE0.trans' hE) (below_drewN' _ _)⟩
      · have HDD := Lib.hid (take_all_eq hall.out (by omega) (by omega))
        clear hall hlen
        go_wp2_with fail
        refine (HT.out _ (HR1.out _ (hE0.trans' hE)).add (HR2.out _ (hE0.trans' hE)).add).mono ?_
        rintro e w2 ⟨rfl, hb2⟩
        have x0 := (hbx.ext (hE.trans' hb2)).cell 0
        have x1 := (hbx.ext (hE.trans' hb2)).cell 1
        have x2 := (hbx.ext (hE.trans' hb2)).cell 2
        have y0 := (hbox_w1.ext (hE.trans' hb2)).cell 0
        have y1 := (hbox_w1.ext (hE.trans' hb2)).cell 1
        have y2 := (hbox_w1.ext (hE.trans' hb2)).cell 2
        simp at x0 x1 x2 y0 y1 y2
        have HF : Hid (∀ b : Bool, b = (decide (l = l') && ((n : Int) == (n' : Int)) && ((s : Int) == (s' : Int)) && ((g : Int) == (g' : Int))) → b = decide ((⟨n, s, g, l, d⟩ : Edit) = ⟨n', s', g', l', d'⟩)) := by
          rintro b rfl
          rw [HDD.out]
          have q1 : ((n : Int) == (n' : Int)) = decide (n = n') := by rw [Bool.eq_iff_iff]; simp; omega
          have q2 : ((s : Int) == (s' : Int)) = decide (s = s') := by rw [Bool.eq_iff_iff]; simp; omega
          have q3 : ((g : Int) == (g' : Int)) = decide (g = g') := by rw [Bool.eq_iff_iff]; simp; omega
          rw [q1, q2, q3, Bool.eq_iff_iff]
          simp
          constructor
          · rintro ⟨⟨⟨a, b⟩, c⟩, d⟩; exact ⟨b, c, d, a⟩
          · rintro ⟨b, c, d, a⟩; exact ⟨⟨⟨a, b⟩, c⟩, d⟩
        obtain ⟨bt, hbt⟩ : ∃ bt, bt = decide (l = l') := ⟨_, rfl⟩
        rw [← hbt] at HF ⊢
        clear hbt
        go_wp2
        all_goals go_ret
        all_goals refine ⟨congrArg (fun b => Ending.returned (.bool b)) (HF.out _ ?_), (hE0.trans' hE).trans' hb2⟩
        all_goals simp [*]
  · have hb : ((d.length : Int) != (d'.length : Int)) = true := by simp; omega
    have hd : decide ((⟨n, s, g, l, d⟩ : Edit) = ⟨n', s', g', l', d'⟩) = false := by
      apply decide_eq_false
      intro h
      injection h with _ _ _ _ h
      exact hlen (by rw [h])
    rw [hd]
    go_enter Try.func20, Try.ntmps20
    go_wp2
    go_ret
    exact ⟨rfl, by (repeat (first | exact Below.refl _ _ | refine Ext.trans' ?_ (Ext.al _ _) | refine Ext.trans' ?_ (Ext.dr _) | refine Ext.trans' ?_ (by assumption)))⟩
end Go.Proofs.Yteplpgknnlehnaa
