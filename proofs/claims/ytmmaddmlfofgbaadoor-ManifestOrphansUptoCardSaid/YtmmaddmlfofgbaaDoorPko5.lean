/- Parts of this work, one behind the other: Apl3. -/
import Derived.BigGuardPart
import Derived.Test.YtmmaddmlfofgbaaDoorPko2
import Derived.Test.YtmmaddmlfofgbaaDoorPko0
/- A table more in a level, in its order (layer 10): the document's walk. -/
namespace Go.Proofs.YtmmaddmlfofgbaaDoor
set_option linter.unusedSimpArgs false
set_option linter.unusedVariables false
open Go.RowKit

theorem while_at {α : Type} {p : α → Bool} : ∀ {l : List α} {k : Nat}, (∀ u ∈ l.take k, p u = true) → (∀ u, l[k]? = some u → p u = false) → l.takeWhile p = l.take k ∧ l.dropWhile p = l.drop k
  | [], k, _, _ => by simp
  | a :: l, 0, _, h => by
    have := h a rfl
    simp [List.takeWhile_cons, List.dropWhile_cons, this]
  | a :: l, k + 1, h, h' => by
    have ha := h a (by simp)
    obtain ⟨h1, h2⟩ := while_at (l := l) (k := k) (fun u hu => h u (by simp [hu])) (fun u hu => h' u (by simpa using hu))
    simp [List.takeWhile_cons, List.dropWhile_cons, ha, h1, h2]
theorem putRef_at {l : List Table} {t : Table} {k : Nat} (h : ∀ u ∈ l.take k, ahead t u = true) (h' : ∀ u, l[k]? = some u → ahead t u = false) : putRef l t = l.take k ++ t :: l.drop k := by
  obtain ⟨h1, h2⟩ := while_at h h'
  rw [putRef, h1, h2]

/-- a slice that lies somewhere, within its capacity -/
def Lies (w : World) (A : Option Addr) (c : Nat) (l : List Table) : Prop :=
  (A = none ∧ c = 0 ∧ l = []) ∨ ∃ b off, A = some ⟨b, off, none⟩ ∧ b < w.heap.size ∧ l.length ≤ c ∧ ∀ j u, (l.flatMap Table.cells)[j]? = some u → w.cell? ⟨b, off + j, none⟩ = some u
theorem Lies.of_own {w : World} {base : Nat} {A : Option Addr} {c : Nat} {l : List Table} (h : Own w base 42 Table.cells 6 A c l) : Lies w A c l := by
  have h0 := h
  rcases h.2 with ⟨h1, h2⟩ | ⟨g, cap, cur, h1, _, h3, h4, _, h5, h6⟩
  · injection h1 with h7 h8 h9
    subst h7 h9
    exact .inl ⟨rfl, rfl, List.eq_nil_of_length_eq_zero h2⟩
  · injection h1 with h7 h8 h9
    subst h7 h9
    refine .inr ⟨g, 0, rfl, (Array.getElem?_eq_some_iff.1 h3).1, h4, fun j u hu => ?_⟩
    have := World.ownsRow.cells h0 (g := g) rfl j u hu
    rwa [show ((⟨g, 0, none⟩ : Addr).add j) = ⟨g, 0 + j, none⟩ by unfold Addr.add; split <;> simp_all] at this

set_option maxRecDepth 100000 in
set_option maxHeartbeats 800000 in
theorem put_some (l : List Table) (hl : l.length ≤ 1099511627776) (t : Table) (ht : 0 ≤ t.level) (b off c : Nat) (hc : l.length ≤ c) (w : World) (hb : b < w.heap.size) (hr : ∀ j u, (l.flatMap Table.cells)[j]? = some u → w.cell? ⟨b, off + j, none⟩ = some u) :
    Calls Tryd.prog 19 #[.slice (some ⟨b, off, none⟩) l.length c, .agg t.cells.toArray] w fun e w' => ∃ A' c', e = .returned (.slice A' (putRef l t).length c') ∧ Own w' w.heap.size 42 Table.cells 6 A' c' (putRef l t) ∧ Ext w w' := by
  have HR := Lib.hid (fun w' (hX : Ext w w') j u hj => (hX.cell (p := ⟨b, off + j, none⟩) hb).trans (hr j u hj))
  clear hr
  obtain ⟨n1, l1, s1, c1, a1, g1⟩ := t
  have HT : Hid (∀ k, (∀ u ∈ l.take k, ahead ⟨n1, l1, s1, c1, a1, g1⟩ u = true) → (∀ u, l[k]? = some u → ahead ⟨n1, l1, s1, c1, a1, g1⟩ u = false) → putRef l ⟨n1, l1, s1, c1, a1, g1⟩ = l.take k ++ ⟨n1, l1, s1, c1, a1, g1⟩ :: l.drop k) := fun k => putRef_at
  dsimp only [Table.cells] at *
  have hlss := @run_lss_str Tryd.prog
  go_enter Tryd.func19, Tryd.ntmps19
  go_wp2_with fail
  obtain ⟨S, hS⟩ : ∃ S, w.heap.size = S := ⟨_, rfl⟩
  (obtain ⟨w0, hw0⟩ : ∃ w0, w0 = World.alloc w (.cells #[.int .u64 n1, .int .i64 l1, .int .i64 s1, .int .i64 c1, str a1, str g1] 42) := ⟨_, rfl⟩); (have hbox_w0 : Box w0 (w).heap.size 42 #[.int .u64 n1, .int .i64 l1, .int .i64 s1, .int .i64 c1, str a1, str g1] := by rw [hw0]; exact Box.new _ _ _); (have hE_w0 : Ext w w0 := by rw [hw0]; exact Ext.al _ _); (have hz_w0 : (w0).heap.size = (w).heap.size + 1 := by rw [hw0]; simp); rw [← hw0]; clear hw0
  rw [hS] at hbox_w0 hz_w0 hb ⊢
  go_loopw [5] (fun i wr => ∃ k : Nat, k ≤ l.length ∧ i = .int .i64 k ∧ Hid (∀ u ∈ l.take k, ahead ⟨n1, l1, s1, c1, a1, g1⟩ u = true) ∧ Box wr S 42 #[.int .u64 n1, .int .i64 l1, .int .i64 s1, .int .i64 c1, str a1, str g1] ∧ Ext w wr ∧ S + 1 ≤ wr.heap.size) (fun i _ => l.length - (intOf i).toNat)
  · exact ⟨0, by simp, rfl, by simp [Hid], hbox_w0, hE_w0, by omega⟩
  · clear hbox_w0 hE_w0 hz_w0
    obtain ⟨k, hk, rfl, hn, hbox, hX, hsz⟩ := hrel
    have HXn : ∀ n, Ext w (wr.drewN n) := fun n => Below.trans hX (below_drewN' wr n)
    have HBn : ∀ n, Box (wr.drewN n) S 42 #[.int .u64 n1, .int .i64 l1, .int .i64 s1, .int .i64 c1, str a1, str g1] := fun n => hbox
    have b0 := hbox.cell 0
    have b1 := hbox.cell 1
    have b4 := hbox.cell 4
    simp only [List.getElem?_toArray, List.getElem?_cons_zero, List.getElem?_cons_succ] at b0 b1 b4
    by_cases hlt : k < l.length
    · obtain ⟨u, hu⟩ : ∃ u, l[k]? = some u := ⟨l[k], List.getElem?_eq_getElem hlt⟩
      have hc6 : ∀ j v, (Table.cells u)[j]? = some v → wr.cell? ⟨b, off + (k * 6 + j), none⟩ = some v := fun j v hj => HR.out _ hX (k * 6 + j) v (by
        have hj6 : j < 6 := by rw [← Table.cells_len u]; exact (List.getElem?_eq_some_iff.1 hj).1
        rw [getElem?_flatMap (sz := 6) Table.cells_len l k j hj6, hu]; exact hj)
      have x0 := hc6 0 _ rfl
      have x4 := hc6 4 _ rfl
      rw [← Nat.add_assoc] at x0 x4
      rw [Nat.add_zero] at x0
      have HU := Lib.hid hu
      obtain ⟨n2, l2, s2, c2, a2, g2⟩ := u
      clear hc6 hu
      dsimp only at x0 x4
      have hstep : ahead ⟨n1, l1, s1, c1, a1, g1⟩ ⟨n2, l2, s2, c2, a2, g2⟩ = true → Hid (∀ u ∈ l.take (k + 1), ahead ⟨n1, l1, s1, c1, a1, g1⟩ u = true) := fun hh => by
        unfold Hid
        rw [List.take_add_one, HU.out]
        intro u hu
        rcases List.mem_append.1 hu with hu | hu
        · exact hn.out u hu
        · simp at hu; subst hu; exact hh
      have hstop : ahead ⟨n1, l1, s1, c1, a1, g1⟩ ⟨n2, l2, s2, c2, a2, g2⟩ = false → Hid (putRef l ⟨n1, l1, s1, c1, a1, g1⟩ = l.take k ++ ⟨n1, l1, s1, c1, a1, g1⟩ :: l.drop k) := fun hh =>
        HT.out k hn.out (fun u hu => by rw [HU.out] at hu; cases hu; exact hh)
      have HSTEP := Lib.hid hstep
      have HSTOP := Lib.hid hstop
      clear hstep hstop HU hn HT
      by_cases hl0 : l1 = 0
      · subst hl0
        by_cases hnn : n2 < n1
        · have HN := HSTEP.out (by simp [ahead, hnn])
          clear HSTEP HSTOP
          go_wp2_with fail
          go_quiet (fail)
          go_wp2
          exact ⟨⟨k + 1, by omega, by simp, HN, HBn _, HXn _, hsz⟩, by simp [intOf]; omega⟩
        · have HP := HSTOP.out (by simp [ahead]; omega)
          clear HSTEP HSTOP
          go_wp2_with fail
          go_quiet (fail)
          have hcell := fun n => HR.out _ (HXn n)
          clear x0 x4
          go_wp2_with (at_builtin; refine wpList_append_list Tryd.tablesOf rfl _ _ rfl (l.take k) (l := []) (c := 0) (base := S + 1) rfl Own.nil_ rfl rfl (by simp; omega) Table.cells_len Table.one (fun j u hj => hcell _ _ _ (part_take l k _ hj)) (by simp; omega) (by simp; omega) (by exact hsz) ?_)
          rintro A1 c1' w1 ho1 hg1 -
          have ho1 : Own w1 (S + 1) 42 Table.cells 6 A1 c1' (l.take k) := by simpa using ho1
          have hX1 : Ext w w1 := Ext.trans' (HXn _) (ext_of_grown ⟨hg1.os, hg1.tape, hg1.output, hg1.size, fun k hk _ => hg1.block k hk (by simp [ownBlk])⟩)
          have hbox1 : Box w1 S 42 #[.int .u64 n1, .int .i64 0, .int .i64 s1, .int .i64 c1, str a1, str g1] := (HBn _).keep (hg1.block S hbox.lt (by simp [ownBlk]))
          have hsz1 : S + 1 ≤ w1.heap.size := Nat.le_trans hsz hg1.size
          have hcell1 := HR.out _ hX1
          have hlk : (l.take k).length = k := by rw [List.length_take]; omega
          have d0 := hbox1.cell 0
          have d1 := hbox1.cell 1
          have d2 := hbox1.cell 2
          have d3 := hbox1.cell 3
          have d4 := hbox1.cell 4
          have d5 := hbox1.cell 5
          simp only [List.getElem?_toArray, List.getElem?_cons_zero, List.getElem?_cons_succ] at d0 d1 d2 d3 d4 d5
          clear b0 b1 b4 hcell hbox hX hsz hg1 HXn HBn
          go_wp2_with (at_builtin; refine wpList_push_at Tryd.tablesOf rfl _ _ rfl (⟨n1, 0, s1, c1, a1, g1⟩ : Table) (by simp; omega) ho1 rfl (by first | rfl | (simp; done) | (simp; rfl)) rfl (Table.cells_len _) (Table.one _) (by omega) (by omega) hsz1 ?_)
          rintro A2 c2' w2 ho2 hg2 -
          have hX2 := ho1.below_push hX1 (by omega) hX1.size hg2
          have hsz2 : S + 1 ≤ w2.heap.size := by have := hg2.size; simp at this; omega
          have hcell2 := HR.out _ hX2
          have hl2 : (l.take k ++ [(⟨n1, 0, s1, c1, a1, g1⟩ : Table)]).length = k + 1 := by rw [List.length_append, hlk]; rfl
          have hd2 : (l.drop k).length = l.length - k := List.length_drop
          clear hcell1 hbox1 hsz1 ho1 hX1 hg2 d0 d1 d2 d3 d4 d5
          by_cases hck : c = k
          · have hnil : l.drop k = [] := List.drop_of_length_le (by omega)
            go_wp2_with (at_builtin; refine wpList_append_list Tryd.tablesOf rfl _ _ rfl (l.drop k) (by simp; omega) ho2 rfl rfl hd2.symm Table.cells_len Table.one (fun j u hj => by rw [hnil] at hj; simp at hj) (by omega) (by omega) hsz2 ?_)
            rintro A3 c3' w3 ho3 hg3 -
            have hE := Lib.hid (hX2.grown hg3 hX2.size (fun g e => by have := (ho2.blk g e).1; omega))
            have hO : Own w3 S 42 Table.cells 6 A3 c3' (putRef l ⟨n1, 0, s1, c1, a1, g1⟩) := by
              rw [HP.out]
              refine Own.lower ?_ (Nat.le_succ S)
              simpa [hnil] using ho3
            have HO := Lib.hid hO
            have HL : Hid ((putRef l ⟨n1, 0, s1, c1, a1, g1⟩).length = k + 1 + (l.length - k)) := by
              unfold Hid
              rw [HP.out]
              simp
              omega
            clear ho3 hg3 ho2 hcell2 hX2 HP hO
            go_wp2
            go_ret
            have hL := HL.out
            refine ⟨A3, c3', congrArg (fun n => Ending.returned (.slice A3 n c3')) ?_, by rw [hS]; exact HO.out, hE.out⟩
            omega
          · go_wp2_with (at_builtin; refine wpList_append_list Tryd.tablesOf rfl _ _ rfl (l.drop k) (by simp; omega) ho2 rfl rfl hd2.symm Table.cells_len Table.one (fun j u hj => (by rw [Nat.add_assoc]; exact hcell2 _ _ (part_drop Table.cells_len l (by omega) _ hj))) (by omega) (by omega) hsz2 ?_)
            rintro A3 c3' w3 ho3 hg3 -
            have hE := Lib.hid (hX2.grown hg3 hX2.size (fun g e => by have := (ho2.blk g e).1; omega))
            have hO : Own w3 S 42 Table.cells 6 A3 c3' (putRef l ⟨n1, 0, s1, c1, a1, g1⟩) := by
              rw [HP.out]
              refine Own.lower ?_ (Nat.le_succ S)
              simpa using ho3
            have HO := Lib.hid hO
            have HL : Hid ((putRef l ⟨n1, 0, s1, c1, a1, g1⟩).length = k + 1 + (l.length - k)) := by
              unfold Hid
              rw [HP.out]
              simp
              omega
            clear ho3 hg3 ho2 hcell2 hX2 HP hO
            go_wp2
            go_ret
            have hL := HL.out
            refine ⟨A3, c3', congrArg (fun n => Ending.returned (.slice A3 n c3')) ?_, by rw [hS]; exact HO.out, hE.out⟩
            omega
      · have hlp : (0 : Int) < l1 := by omega
        cases hab : ltB a2 a1 with
        | true =>
          have HN := HSTEP.out (by simp [ahead, hl0, hab])
          clear HSTEP HSTOP
          have hab' : Op.bytesLess a2 a1 = true := hab
          have hd0 : decide (l1 = 0) = false := by simp [hl0]
          have hd1 : decide ((0 : Int) < l1) = true := by simp [hlp]
          go_wp2_with fail
          go_quiet (fail)
          go_wp2
          exact ⟨⟨k + 1, by omega, by simp, HN, HBn _, HXn _, hsz⟩, by simp [intOf]; omega⟩
        | false =>
          have HP := HSTOP.out (by simp [ahead, hl0, hab])
          clear HSTEP HSTOP
          have hab' : Op.bytesLess a2 a1 = false := hab
          go_wp2_with fail
          go_quiet (fail)
          have hcell := fun n => HR.out _ (HXn n)
          clear x0 x4
          go_wp2_with (at_builtin; refine wpList_append_list Tryd.tablesOf rfl _ _ rfl (l.take k) (l := []) (c := 0) (base := S + 1) rfl Own.nil_ rfl rfl (by simp; omega) Table.cells_len Table.one (fun j u hj => hcell _ _ _ (part_take l k _ hj)) (by simp; omega) (by simp; omega) (by exact hsz) ?_)
          rintro A1 c1' w1 ho1 hg1 -
          have ho1 : Own w1 (S + 1) 42 Table.cells 6 A1 c1' (l.take k) := by simpa using ho1
          have hX1 : Ext w w1 := Ext.trans' (HXn _) (ext_of_grown ⟨hg1.os, hg1.tape, hg1.output, hg1.size, fun k hk _ => hg1.block k hk (by simp [ownBlk])⟩)
          have hbox1 : Box w1 S 42 #[.int .u64 n1, .int .i64 l1, .int .i64 s1, .int .i64 c1, str a1, str g1] := (HBn _).keep (hg1.block S hbox.lt (by simp [ownBlk]))
          have hsz1 : S + 1 ≤ w1.heap.size := Nat.le_trans hsz hg1.size
          have hcell1 := HR.out _ hX1
          have hlk : (l.take k).length = k := by rw [List.length_take]; omega
          have d0 := hbox1.cell 0
          have d1 := hbox1.cell 1
          have d2 := hbox1.cell 2
          have d3 := hbox1.cell 3
          have d4 := hbox1.cell 4
          have d5 := hbox1.cell 5
          simp only [List.getElem?_toArray, List.getElem?_cons_zero, List.getElem?_cons_succ] at d0 d1 d2 d3 d4 d5
          clear b0 b1 b4 hcell hbox hX hsz hg1 HXn HBn
          go_wp2_with (at_builtin; refine wpList_push_at Tryd.tablesOf rfl _ _ rfl (⟨n1, l1, s1, c1, a1, g1⟩ : Table) (by simp; omega) ho1 rfl (by first | rfl | (simp; done) | (simp; rfl)) rfl (Table.cells_len _) (Table.one _) (by omega) (by omega) hsz1 ?_)
          rintro A2 c2' w2 ho2 hg2 -
          have hX2 := ho1.below_push hX1 (by omega) hX1.size hg2
          have hsz2 : S + 1 ≤ w2.heap.size := by have := hg2.size; simp at this; omega
          have hcell2 := HR.out _ hX2
          have hl2 : (l.take k ++ [(⟨n1, l1, s1, c1, a1, g1⟩ : Table)]).length = k + 1 := by rw [List.length_append, hlk]; rfl
          have hd2 : (l.drop k).length = l.length - k := List.length_drop
          clear hcell1 hbox1 hsz1 ho1 hX1 hg2 d0 d1 d2 d3 d4 d5
          by_cases hck : c = k
          · have hnil : l.drop k = [] := List.drop_of_length_le (by omega)
            go_wp2_with (at_builtin; refine wpList_append_list Tryd.tablesOf rfl _ _ rfl (l.drop k) (by simp; omega) ho2 rfl rfl hd2.symm Table.cells_len Table.one (fun j u hj => by rw [hnil] at hj; simp at hj) (by omega) (by omega) hsz2 ?_)
            rintro A3 c3' w3 ho3 hg3 -
            have hE := Lib.hid (hX2.grown hg3 hX2.size (fun g e => by have := (ho2.blk g e).1; omega))
            have hO : Own w3 S 42 Table.cells 6 A3 c3' (putRef l ⟨n1, l1, s1, c1, a1, g1⟩) := by
              rw [HP.out]
              refine Own.lower ?_ (Nat.le_succ S)
              simpa [hnil] using ho3
            have HO := Lib.hid hO
            have HL : Hid ((putRef l ⟨n1, l1, s1, c1, a1, g1⟩).length = k + 1 + (l.length - k)) := by
              unfold Hid
              rw [HP.out]
              simp
              omega
            clear ho3 hg3 ho2 hcell2 hX2 HP hO
            go_wp2
            go_ret
            have hL := HL.out
            refine ⟨A3, c3', congrArg (fun n => Ending.returned (.slice A3 n c3')) ?_, by rw [hS]; exact HO.out, hE.out⟩
            omega
          · go_wp2_with (at_builtin; refine wpList_append_list Tryd.tablesOf rfl _ _ rfl (l.drop k) (by simp; omega) ho2 rfl rfl hd2.symm Table.cells_len Table.one (fun j u hj => (by rw [Nat.add_assoc]; exact hcell2 _ _ (part_drop Table.cells_len l (by omega) _ hj))) (by omega) (by omega) hsz2 ?_)
            rintro A3 c3' w3 ho3 hg3 -
            have hE := Lib.hid (hX2.grown hg3 hX2.size (fun g e => by have := (ho2.blk g e).1; omega))
            have hO : Own w3 S 42 Table.cells 6 A3 c3' (putRef l ⟨n1, l1, s1, c1, a1, g1⟩) := by
              rw [HP.out]
              refine Own.lower ?_ (Nat.le_succ S)
              simpa using ho3
            have HO := Lib.hid hO
            have HL : Hid ((putRef l ⟨n1, l1, s1, c1, a1, g1⟩).length = k + 1 + (l.length - k)) := by
              unfold Hid
              rw [HP.out]
              simp
              omega
            clear ho3 hg3 ho2 hcell2 hX2 HP hO
            go_wp2
            go_ret
            have hL := HL.out
            refine ⟨A3, c3', congrArg (fun n => Ending.returned (.slice A3 n c3')) ?_, by rw [hS]; exact HO.out, hE.out⟩
            omega
    · have HP : Hid (putRef l ⟨n1, l1, s1, c1, a1, g1⟩ = l.take k ++ ⟨n1, l1, s1, c1, a1, g1⟩ :: l.drop k) :=
        HT.out k hn.out (fun u hu => by rw [List.getElem?_eq_none (by omega)] at hu; cases hu)
      clear hn
      go_wp2_with fail
      go_quiet (fail)
      have hcell := fun n => HR.out _ (HXn n)
      go_wp2_with (at_builtin; refine wpList_append_list Tryd.tablesOf rfl _ _ rfl (l.take k) (l := []) (c := 0) (base := S + 1) rfl Own.nil_ rfl rfl (by simp; omega) Table.cells_len Table.one (fun j u hj => hcell _ _ _ (part_take l k _ hj)) (by simp; omega) (by simp; omega) (by exact hsz) ?_)
      rintro A1 c1' w1 ho1 hg1 -
      have ho1 : Own w1 (S + 1) 42 Table.cells 6 A1 c1' (l.take k) := by simpa using ho1
      have hX1 : Ext w w1 := Ext.trans' (HXn _) (ext_of_grown ⟨hg1.os, hg1.tape, hg1.output, hg1.size, fun k hk _ => hg1.block k hk (by simp [ownBlk])⟩)
      have hbox1 : Box w1 S 42 #[.int .u64 n1, .int .i64 l1, .int .i64 s1, .int .i64 c1, str a1, str g1] := (HBn _).keep (hg1.block S hbox.lt (by simp [ownBlk]))
      have hsz1 : S + 1 ≤ w1.heap.size := Nat.le_trans hsz hg1.size
      have hcell1 := HR.out _ hX1
      have hlk : (l.take k).length = k := by rw [List.length_take]; omega
      have d0 := hbox1.cell 0
      have d1 := hbox1.cell 1
      have d2 := hbox1.cell 2
      have d3 := hbox1.cell 3
      have d4 := hbox1.cell 4
      have d5 := hbox1.cell 5
      simp only [List.getElem?_toArray, List.getElem?_cons_zero, List.getElem?_cons_succ] at d0 d1 d2 d3 d4 d5
      clear b0 b1 b4 hcell hbox hX hsz hg1 HXn HBn
      go_wp2_with (at_builtin; refine wpList_push_at Tryd.tablesOf rfl _ _ rfl (⟨n1, l1, s1, c1, a1, g1⟩ : Table) (by simp; omega) ho1 rfl (by first | rfl | (simp; done) | (simp; rfl)) rfl (Table.cells_len _) (Table.one _) (by omega) (by omega) hsz1 ?_)
      rintro A2 c2' w2 ho2 hg2 -
      have hX2 := ho1.below_push hX1 (by omega) hX1.size hg2
      have hsz2 : S + 1 ≤ w2.heap.size := by have := hg2.size; simp at this; omega
      have hcell2 := HR.out _ hX2
      have hl2 : (l.take k ++ [(⟨n1, l1, s1, c1, a1, g1⟩ : Table)]).length = k + 1 := by rw [List.length_append, hlk]; rfl
      have hd2 : (l.drop k).length = l.length - k := List.length_drop
      clear hcell1 hbox1 hsz1 ho1 hX1 hg2 d0 d1 d2 d3 d4 d5
      by_cases hck : c = k
      · have hnil : l.drop k = [] := List.drop_of_length_le (by omega)
        go_wp2_with (at_builtin; refine wpList_append_list Tryd.tablesOf rfl _ _ rfl (l.drop k) (by simp; omega) ho2 rfl rfl hd2.symm Table.cells_len Table.one (fun j u hj => by rw [hnil] at hj; simp at hj) (by omega) (by omega) hsz2 ?_)
        rintro A3 c3' w3 ho3 hg3 -
        have hE := Lib.hid (hX2.grown hg3 hX2.size (fun g e => by have := (ho2.blk g e).1; omega))
        have hO : Own w3 S 42 Table.cells 6 A3 c3' (putRef l ⟨n1, l1, s1, c1, a1, g1⟩) := by
          rw [HP.out]
          refine Own.lower ?_ (Nat.le_succ S)
          simpa [hnil] using ho3
        have HO := Lib.hid hO
        have HL : Hid ((putRef l ⟨n1, l1, s1, c1, a1, g1⟩).length = k + 1 + (l.length - k)) := by
          unfold Hid
          rw [HP.out]
          simp
          omega
        clear ho3 hg3 ho2 hcell2 hX2 HP hO
        go_wp2
        go_ret
        have hL := HL.out
        refine ⟨A3, c3', congrArg (fun n => Ending.returned (.slice A3 n c3')) ?_, by rw [hS]; exact HO.out, hE.out⟩
        omega
      · go_wp2_with (at_builtin; refine wpList_append_list Tryd.tablesOf rfl _ _ rfl (l.drop k) (by simp; omega) ho2 rfl rfl hd2.symm Table.cells_len Table.one (fun j u hj => (by rw [Nat.add_assoc]; exact hcell2 _ _ (part_drop Table.cells_len l (by omega) _ hj))) (by omega) (by omega) hsz2 ?_)
        rintro A3 c3' w3 ho3 hg3 -
        have hE := Lib.hid (hX2.grown hg3 hX2.size (fun g e => by have := (ho2.blk g e).1; omega))
        have hO : Own w3 S 42 Table.cells 6 A3 c3' (putRef l ⟨n1, l1, s1, c1, a1, g1⟩) := by
          rw [HP.out]
          refine Own.lower ?_ (Nat.le_succ S)
          simpa using ho3
        have HO := Lib.hid hO
        have HL : Hid ((putRef l ⟨n1, l1, s1, c1, a1, g1⟩).length = k + 1 + (l.length - k)) := by
          unfold Hid
          rw [HP.out]
          simp
          omega
        clear ho3 hg3 ho2 hcell2 hX2 HP hO
        go_wp2
        go_ret
        have hL := HL.out
        refine ⟨A3, c3', congrArg (fun n => Ending.returned (.slice A3 n c3')) ?_, by rw [hS]; exact HO.out, hE.out⟩
        omega
end Go.Proofs.YtmmaddmlfofgbaaDoor
