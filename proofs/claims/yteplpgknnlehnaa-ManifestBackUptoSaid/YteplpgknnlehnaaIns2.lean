/- slices.Insert of one table into a level, amid it. -/
import Derived.Test.YteplpgknnlehnaaIns
namespace Go.Proofs.Yteplpgknnlehnaa
set_option linter.unusedSimpArgs false
set_option linter.unusedVariables false
open Go.RowKit

set_option maxRecDepth 100000 in
set_option maxHeartbeats 800000 in
theorem insert_grow (l : List Table) (hl : l.length ≤ 1099511627776) (t : Table) (i : Nat) (hi : i < l.length) (g c base vb : Nat) (hc : c = l.length) (w : World) (hown : Own w base 53 Table.cells 6 (some ⟨g, 0, none⟩) c l) (hbase : base ≤ w.heap.size) (hv : Box w vb 53 t.cells.toArray) (hvg : vb ≠ g) :
    Calls Try.prog 62 #[.slice (some ⟨g, 0, none⟩) l.length c, .int .i64 i, .slice (some ⟨vb, 0, none⟩) 1 1] w fun e w' => ∃ A' c', e = .returned (.slice A' (l.length + 1) c') ∧ Own w' base 53 Table.cells 6 A' c' (l.take i ++ t :: l.drop i) ∧ Ext w w' ∧ (∀ g, ownBlk A' = some g → w.heap.size ≤ g) := by
  have hvc := hv.cell
  obtain ⟨hlen, hrow⟩ := hown
  rcases hrow with ⟨h1, _⟩ | ⟨g', cap, cur, h1, hbg, hg, hnc, hcm, hcs, htake⟩
  · cases h1
  injection h1 with h1 _ h3
  injection h1 with h1
  injection h1 with h1
  subst h1 h3
  obtain ⟨n, hn⟩ : ∃ n, l.length = n := ⟨_, rfl⟩
  have hg0 : ∀ j u, (l.flatMap Table.cells)[j]? = some u → w.cell? ⟨g, 0 + j, none⟩ = some u := fun j u hj => by
    have := World.ownsRow.cells (w := w) (base := base) (e := 53) (size := 6) (v := .slice (some ⟨g, 0, none⟩) l.length c) (n := l.length) (xs := l.flatMap Table.cells) ⟨hlen, .inr ⟨g, c, cur, rfl, hbg, hg, hnc, hcm, hcs, htake⟩⟩ (g := g) rfl j u hj
    rwa [add_plain] at this
  have hgs : g < w.heap.size := (Array.getElem?_eq_some_iff.1 hg).1
  have hlt : (l.take i).length = i := by rw [List.length_take]; omega
  have hld : (l.drop i).length = n - i := by rw [List.length_drop, hn]
  have HP1 := Lib.hid (fun j u (hj : ((l.take i).flatMap Table.cells)[j]? = some u) => hg0 j u (part_take l i j hj))
  have HP2 := Lib.hid (fun j u (hj : ((l.drop i).flatMap Table.cells)[j]? = some u) => hg0 _ u (part_drop Table.cells_len l (by omega) j hj))
  have HPG := Lib.hid (fun (C C1 C2 R : List Value) => put_grown (f := Table.cells) (sz := 6) Table.cells_len l t (i := i) (by omega) (C := C) (C1 := C1) (C2 := C2) (R := R))
  have HL1 := Lib.hid (part_len Table.cells_len l (i := i) (by omega))
  have HL2 := Lib.hid (length_flatMap' Table.cells_len (l.drop i))
  have HO1 := Lib.hid (fun u (hu : u ∈ (l.drop i).flatMap Table.cells) => (by obtain ⟨x, _, hx⟩ := List.mem_flatMap.1 hu; exact Table.one x u hx : u.oneCell' = true))
  have hcn : c = n := by omega
  rw [hn] at hl hi HPG ⊢
  clear hc
  subst hcn
  have hne : ((i : Int) == (c : Int)) = false := by simp; omega
  have hci : ¬ (c = i) := by omega
  have hc0 : ¬ (c = 0) := by omega
  have hw2 : IntKind.i64.wrap ((c : Int) + 1) = (c : Int) + 1 := by rw [IntKind.wrap_i64]; omega
  have hw3 : IntKind.i64.wrap ((c : Int) + 1 - (i : Int)) = (c : Int) + 1 - (i : Int) := by rw [IntKind.wrap_i64]; omega
  have hgt : decide ((c : Int) < (c : Int) + 1) = true := by simp; omega
  clear hg0 hlen hcs htake hcm hnc
  have hw1 : IntKind.i64.wrap ((i : Int) + 1) = (i : Int) + 1 := by rw [IntKind.wrap_i64]; omega
  go_enter Try.func62, Try.ntmps62
  go_wp2_with (at_builtin; go_loud (refine wpList_append_zeros Try.tablesOf Try.underlying3 rfl _ _ rfl (b := g) (off := 0) (l := i) (c := c) (n := c + 1 - i) rfl (by show Value.int IntKind.i64 ((c : Int) + 1 - (i : Int)) = _; congr 1; omega) (by omega) HL1.out HP1.out (by omega) (by omega) (by omega) ?_))
  rintro c1 cur1 w1 hB hc1 hcm1 hcs1 ht1 hX1 hlt1
  rw [show i + (c + 1 - i) = c + 1 by omega] at hc1 ⊢
  have hvc1 : ∀ j u, t.cells[j]? = some u → w1.cell? ⟨vb, 0 + j, none⟩ = some u := fun j u h => (hX1.cell (p := ⟨vb, 0 + j, none⟩) hv.lt).trans (by rw [Nat.zero_add, hvc]; simpa using h)
  have HT1 := Lib.hid ht1
  clear ht1
  have hci2 : ¬ (c1 = i) := by omega
  have hci3 : ¬ (c1 = i + 1) := by omega
  go_wp2_with (with_reducible refine wpList_copy_at Try.tablesOf rfl (.tmp 43) (.tmp 44) rfl (g := w.heap.size) (off := i * 6) (dn := c + 1 - i) rfl (b := vb) (soff := 0) (sn := 1) rfl (xs := t.cells) (n := 1) (Nat.min_eq_left (by omega)) (Table.cells_len t) hvc1 hB (by rw [Table.cells_len, hcs1]; omega) (Table.one t) ?_)
  rintro w2 hB2 hg2
  have hX2 : Ext w w2 := hX1.grown hg2 hX1.size (fun g' e => by cases e; exact Nat.le_refl _)
  have hs2 : ∀ j u, ((l.drop i).flatMap Table.cells)[j]? = some u → w2.cell? ⟨g, i * 6 + j, none⟩ = some u := fun j u h => (hX2.cell (p := ⟨g, i * 6 + j, none⟩) hgs).trans (by have := HP2.out j u h; rwa [Nat.zero_add] at this)
  obtain ⟨C2, hC2⟩ : ∃ C2, C2 = cur1.toList.take (i * 6) ++ (t.cells ++ cur1.toList.drop (i * 6 + t.cells.length)) := ⟨_, rfl⟩
  rw [← hC2] at hB2
  have hl2 : C2.length = c1 * 6 := by
    rw [hC2]
    simp [Table.cells_len, hcs1]
    omega
  clear hB hX1 hvc1 hvc hg2
  go_wp2_with fail
  have q1 : (0 : Int) ≤ (i : Int) + 1 := by omega
  have q2 : (i : Int) + 1 ≤ (c : Int) + 1 := by omega
  have q3 : (i : Int) ≤ (c : Int) := by omega
  have q4 : ((i : Int) + 1).toNat = i + 1 := by omega
  refine wp_region_sch (RS ((fun _ => False))) 8 [(0, true), (1, true), (2, true), (3, true), (4, true), (5, true), (6, true), (7, true), (8, false)] (by kernel_rfl) (by kernel_rfl) RS.refl RS.trans (fun _ _ d _ _ h => by cases d <;> exact h) ?_
  refine wpSch_q ?_ rfl rfl (fun w' hR => ?_) ?_
  rotate_left
  · (go_simp; first | rfl | rw [if_neg (by simp; omega)] | rw [if_neg (by omega)])
  (try simp only [Act.put, List.setIfInBounds_toArray, List.set_cons_zero, List.set_cons_succ])
  refine wpSch_q ?_ rfl rfl (fun w' hR => ?_) ?_
  rotate_left
  · (go_simp; first | rfl | rw [if_neg (by simp; omega)] | rw [if_neg (by omega)])
  (try simp only [Act.put, List.setIfInBounds_toArray, List.set_cons_zero, List.set_cons_succ])
  refine wpSch_q ?_ rfl rfl (fun w' hR => ?_) ?_
  rotate_left
  · (go_simp; first | rfl | rw [if_neg (by simp; omega)] | rw [if_neg (by omega)])
  (try simp only [Act.put, List.setIfInBounds_toArray, List.set_cons_zero, List.set_cons_succ])
  refine wpSch_q ?_ rfl rfl (fun w' hR => ?_) ?_
  rotate_left
  · (go_simp; first | rfl | rw [if_neg (by simp; omega)] | rw [if_neg (by omega)])
  (try simp only [Act.put, List.setIfInBounds_toArray, List.set_cons_zero, List.set_cons_succ])
  refine wpSch_q ?_ rfl rfl (fun w' hR => ?_) ?_
  rotate_left
  · (go_simp; first | rfl | rw [if_neg (by simp; omega)] | rw [if_neg (by omega)])
  (try simp only [Act.put, List.setIfInBounds_toArray, List.set_cons_zero, List.set_cons_succ])
  refine wpSch_q ?_ rfl rfl (fun w' hR => ?_) ?_
  rotate_left
  · (go_simp; first | rfl | rw [if_neg (by simp; omega)] | rw [if_neg (by omega)])
  (try simp only [Act.put, List.setIfInBounds_toArray, List.set_cons_zero, List.set_cons_succ])
  refine wpSch_q ?_ rfl rfl (fun w' hR => ?_) ?_
  rotate_left
  · (go_simp; first | rfl | rw [if_neg (by simp; omega)] | rw [if_neg (by omega)])
  (try simp only [Act.put, List.setIfInBounds_toArray, List.set_cons_zero, List.set_cons_succ])
  refine wpSch_q ?_ rfl rfl (fun w' hR => ?_) ?_
  rotate_left
  · (go_simp; first | rfl | rw [if_neg (by simp; omega)] | rw [if_neg (by omega)])
  (try simp only [Act.put, List.setIfInBounds_toArray, List.set_cons_zero, List.set_cons_succ])
  refine wpSch_e rfl rfl (fun K hK => ?_)
  (refine wp_copy_at Try.tablesOf (.tmp 50) (.tmp 53) rfl (g := w.heap.size) (off := (i + 1) * 6) (dn := c - i) rfl (b := g) (soff := i * 6) (sn := c - i) rfl (xs := (l.drop i).flatMap Table.cells) (n := c - i) (Nat.min_eq_left (by omega)) (by rw [HL2.out, hld]) hs2 hB2 (by rw [HL2.out, hld]; simp [hl2]; omega) HO1.out ?_; rintro w3 hB3 hg3)
  refine hK _ _ (fun _ => (by rename_i h; exact absurd rfl h)) ?_
  clear hK K
  (try simp only [Act.put, List.setIfInBounds_toArray, List.set_cons_zero, List.set_cons_succ])
  skip
  refine wpSch_nil ?_
  clear q1 q2 q3 q4 hs2 hB2
  have hX3 : Ext w w3 := Below.grown (Ext.trans' hX2 (Ext.dr _)) hg3 hX2.size (fun g' e => by cases e; exact Nat.le_refl _)
  have HTK : Hid (∀ R, ((C2.take ((i + 1) * 6) ++ (l.drop i).flatMap Table.cells ++ R).take ((c + 1) * 6)) = (l.take i ++ t :: l.drop i).flatMap Table.cells) := fun R => HPG.out _ C2 _ R HT1.out (by rw [hC2]; simp) rfl
  have hLL : (l.take i ++ t :: l.drop i).length = c + 1 := by simp; omega
  have HB3 := Lib.hid hB3
  clear hB3 hX2 hg3 HPG HT1
  go_wp2
  go_ret
  refine ⟨_, _, rfl, ⟨by rw [length_flatMap' Table.cells_len], .inr ⟨w.heap.size, c1, _, by first | (simp; done) | (simp; omega), hbase, HB3.out, by first | (simp; done) | (simp; omega), hcm1, ?_, ?_⟩⟩, hX3, fun g' e => by cases e; exact Nat.le_refl _⟩
  · simp [HL2.out, hl2]
    omega
  · show List.take ((l.take i ++ t :: l.drop i).length * 6) _ = _
    rw [hLL, List.toList_toArray]
    exact HTK.out _
set_option maxRecDepth 100000 in
set_option maxHeartbeats 800000 in
theorem insert_placed (l : List Table) (hl : l.length ≤ 1099511627776) (t : Table) (i : Nat) (hi : i < l.length) (g c base vb : Nat) (hc : l.length < c) (w : World) (hown : Own w base 53 Table.cells 6 (some ⟨g, 0, none⟩) c l) (hv : Box w vb 53 t.cells.toArray) (hvg : vb ≠ g) :
    Calls Try.prog 62 #[.slice (some ⟨g, 0, none⟩) l.length c, .int .i64 i, .slice (some ⟨vb, 0, none⟩) 1 1] w fun e w' => e = .returned (.slice (some ⟨g, 0, none⟩) (l.length + 1) c) ∧ Own w' base 53 Table.cells 6 (some ⟨g, 0, none⟩) c (l.take i ++ t :: l.drop i) ∧ w.grownBy w' (some g) := by
  have hvc := hv.cell
  obtain ⟨hlen, hrow⟩ := hown
  rcases hrow with ⟨h1, _⟩ | ⟨g', cap, cur, h1, hbg, hg, hnc, hcm, hcs, htake⟩
  · cases h1
  injection h1 with h1 _ h3
  injection h1 with h1
  injection h1 with h1
  subst h1 h3
  obtain ⟨n, hn⟩ : ∃ n, l.length = n := ⟨_, rfl⟩
  have hg0 : ∀ j u, (l.flatMap Table.cells)[j]? = some u → w.cell? ⟨g, 0 + j, none⟩ = some u := fun j u hj => by
    have := World.ownsRow.cells (w := w) (base := base) (e := 53) (size := 6) (v := .slice (some ⟨g, 0, none⟩) l.length c) (n := l.length) (xs := l.flatMap Table.cells) ⟨hlen, .inr ⟨g, c, cur, rfl, hbg, hg, hnc, hcm, hcs, htake⟩⟩ (g := g) rfl j u hj
    rwa [add_plain] at this
  have hgs : g < w.heap.size := (Array.getElem?_eq_some_iff.1 hg).1
  have hld : (l.drop i).length = n - i := by rw [List.length_drop, hn]
  have hs1 : ∀ j u, ((l.drop i).flatMap Table.cells)[j]? = some u → w.cell? ⟨g, i * 6 + j, none⟩ = some u := fun j u h => by
    have := hg0 _ u (part_drop Table.cells_len l (by omega) j h)
    rwa [Nat.zero_add] at this
  have HPP := Lib.hid (fun (C1 C2 R : List Value) => put_placed (f := Table.cells) (sz := 6) Table.cells_len l t hi (C := cur.toList) (C1 := C1) (C2 := C2) (R := R) htake)
  have HL2 := Lib.hid (length_flatMap' Table.cells_len (l.drop i))
  have HO1 := Lib.hid (fun u (hu : u ∈ (l.drop i).flatMap Table.cells) => (by obtain ⟨x, _, hx⟩ := List.mem_flatMap.1 hu; exact Table.one x u hx : u.oneCell' = true))
  have hvl := hv.lt
  have hov : ∀ lb cb, (callFunc 86 #[.slice (some ⟨vb, 0, none⟩) 1 1, .slice (some ⟨g, (i + 1) * 6, none⟩) lb cb]).run Try.prog w = .ok (.value (.bool false)) w := fun lb cb => by
    rw [run_callFunc_extern Try.func86 (by kernel_rfl) (by kernel_rfl) (by kernel_rfl) (e := Extern.SlicesOverlaps.overlaps #[32, 32] #[4]) (by kernel_rfl),
      Lib.run_overlaps_apart w 32 4 53 Try.underlying32 6 (fun w => by kernel_rfl) ⟨vb, 0, none⟩ ⟨g, (i + 1) * 6, none⟩ 1 1 lb cb hvg 53 53 t.cells.toArray.size cur.size
        (by unfold Box at hv; simp [World.shape?, hv]) (by simp [World.shape?, hg]) (by omega) (hv.frozen 0) (hv.frozen _)]
    rfl
  rw [hn] at hl hi hc HPP ⊢
  have hne : ((i : Int) == (n : Int)) = false := by simp; omega
  have hci : ¬ (c = i) := by omega
  have hci1 : ¬ (c = i + 1) := by omega
  have hc0 : ¬ (c = 0) := by omega
  have hcmx : c ≤ 9223372036854775807 := by unfold maxLen at hcm; omega
  have hw1 : IntKind.i64.wrap ((i : Int) + 1) = (i : Int) + 1 := by rw [IntKind.wrap_i64]; omega
  have hw2 : IntKind.i64.wrap ((n : Int) + 1) = (n : Int) + 1 := by rw [IntKind.wrap_i64]; omega
  have hgt : decide ((c : Int) < (n : Int) + 1) = false := by simp; omega
  have q1 : (0 : Int) ≤ (i : Int) + 1 := by omega
  have q2 : (i : Int) + 1 ≤ (n : Int) + 1 := by omega
  have q3 : (i : Int) ≤ (n : Int) + 1 := by omega
  have q4 : ((i : Int) + 1).toNat = i + 1 := by omega
  clear hg0 hlen htake
  go_enter Try.func62, Try.ntmps62
  go_wp2_with (simp only [hov])
  refine wp_region_sch (RS ((fun _ => False))) 8 [(0, true), (1, true), (2, true), (3, true), (4, true), (5, true), (6, true), (7, true), (8, false)] (by kernel_rfl) (by kernel_rfl) RS.refl RS.trans (fun _ _ d _ _ h => by cases d <;> exact h) ?_
  refine wpSch_q ?_ rfl rfl (fun w' hR => ?_) ?_
  rotate_left
  · (go_simp; first | rfl | rw [if_neg (by simp; omega)] | rw [if_neg (by omega)])
  (try simp only [Act.put, List.setIfInBounds_toArray, List.set_cons_zero, List.set_cons_succ])
  refine wpSch_q ?_ rfl rfl (fun w' hR => ?_) ?_
  rotate_left
  · (go_simp; first | rfl | rw [if_neg (by simp; omega)] | rw [if_neg (by omega)])
  (try simp only [Act.put, List.setIfInBounds_toArray, List.set_cons_zero, List.set_cons_succ])
  refine wpSch_q ?_ rfl rfl (fun w' hR => ?_) ?_
  rotate_left
  · (go_simp; first | rfl | rw [if_neg (by simp; omega)] | rw [if_neg (by omega)])
  (try simp only [Act.put, List.setIfInBounds_toArray, List.set_cons_zero, List.set_cons_succ])
  refine wpSch_q ?_ rfl rfl (fun w' hR => ?_) ?_
  rotate_left
  · (go_simp; first | rfl | rw [if_neg (by simp; omega)] | rw [if_neg (by omega)])
  (try simp only [Act.put, List.setIfInBounds_toArray, List.set_cons_zero, List.set_cons_succ])
  refine wpSch_q ?_ rfl rfl (fun w' hR => ?_) ?_
  rotate_left
  · (go_simp; first | rfl | rw [if_neg (by simp; omega)] | rw [if_neg (by omega)])
  (try simp only [Act.put, List.setIfInBounds_toArray, List.set_cons_zero, List.set_cons_succ])
  refine wpSch_q ?_ rfl rfl (fun w' hR => ?_) ?_
  rotate_left
  · (go_simp; first | rfl | rw [if_neg (by simp; omega)] | rw [if_neg (by omega)])
  (try simp only [Act.put, List.setIfInBounds_toArray, List.set_cons_zero, List.set_cons_succ])
  refine wpSch_q ?_ rfl rfl (fun w' hR => ?_) ?_
  rotate_left
  · (go_simp; first | rfl | rw [if_neg (by simp; omega)] | rw [if_neg (by omega)])
  (try simp only [Act.put, List.setIfInBounds_toArray, List.set_cons_zero, List.set_cons_succ])
  refine wpSch_q ?_ rfl rfl (fun w' hR => ?_) ?_
  rotate_left
  · (go_simp; first | rfl | rw [if_neg (by simp; omega)] | rw [if_neg (by omega)])
  (try simp only [Act.put, List.setIfInBounds_toArray, List.set_cons_zero, List.set_cons_succ])
  refine wpSch_e rfl rfl (fun K hK => ?_)
  (refine wp_copy_at Try.tablesOf (.tmp 73) (.tmp 76) rfl (g := g) (off := (i + 1) * 6) (dn := n - i) rfl (b := g) (soff := i * 6) (sn := n + 1 - i) rfl (xs := (l.drop i).flatMap Table.cells) (n := n - i) (Nat.min_eq_right (by omega)) (by rw [HL2.out, hld]) hs1 hg (by rw [HL2.out, hld]; omega) HO1.out ?_; rintro w1 hB1 hg1)
  refine hK _ _ (fun _ => (by rename_i h; exact absurd rfl h)) ?_
  clear hK K
  (try simp only [Act.put, List.setIfInBounds_toArray, List.set_cons_zero, List.set_cons_succ])
  skip
  refine wpSch_nil ?_
  clear q1 q2 q4 hs1 hov hg
  obtain ⟨C1, hC1⟩ : ∃ C1, C1 = cur.toList.take ((i + 1) * 6) ++ (l.drop i).flatMap Table.cells ++ cur.toList.drop ((i + 1) * 6 + ((l.drop i).flatMap Table.cells).length) := ⟨_, rfl⟩
  rw [← hC1] at hB1
  have hl1 : C1.length = c * 6 := by
    rw [hC1]
    simp [HL2.out, hld, hcs]
    omega
  have hG1 : w.grownBy w1 (some g) := ⟨hg1.os, hg1.tape, hg1.output, hg1.size, hg1.block⟩
  have hvc1 : ∀ j u, t.cells[j]? = some u → w1.cell? ⟨vb, 0 + j, none⟩ = some u := fun j u h => hG1.cell (a := ⟨vb, 0 + j, none⟩) (by rw [Nat.zero_add, hvc]; simpa using h) (by simpa using hvg)
  clear hg1 hvc hv
  have HC1 := Lib.hid hC1
  clear hC1
  go_wp2_with (with_reducible refine wpList_copy_at Try.tablesOf rfl (.tmp 80) (.tmp 81) rfl (g := g) (off := i * 6) (dn := n + 1 - i) rfl (b := vb) (soff := 0) (sn := 1) rfl (xs := t.cells) (n := 1) (Nat.min_eq_left (by omega)) (Table.cells_len t) hvc1 hB1 (by rw [Table.cells_len]; simp [hl1]; omega) (Table.one t) ?_)
  rintro w2 hB2 hg2
  have hG2 : w.grownBy w2 (some g) := ⟨hg2.os.trans hG1.os, hg2.tape.trans hG1.tape, hg2.output.trans hG1.output, Nat.le_trans hG1.size hg2.size, fun k hk h => (hg2.block k (Nat.lt_of_lt_of_le hk hG1.size) h).trans (hG1.block k hk h)⟩
  have HB2 := Lib.hid hB2
  have HG2 := Lib.hid hG2
  clear hB1 hB2 hg2 hG1 hG2 hvc1
  go_wp2
  go_ret
  have hLL : (l.take i ++ t :: l.drop i).length = n + 1 := by simp; omega
  refine ⟨rfl, ⟨by rw [length_flatMap' Table.cells_len], .inr ⟨g, c, _, by rw [hLL], hbg, HB2.out, by rw [hLL]; omega, hcm, ?_, ?_⟩⟩, HG2.out⟩
  · simp [Table.cells_len, hl1]
    omega
  · show List.take ((l.take i ++ t :: l.drop i).length * 6) _ = _
    rw [hLL, List.toList_toArray]
    exact HPP.out C1 _ _ HC1.out (by simp)
theorem insert_any (l : List Table) (hl : l.length ≤ 1099511627776) (t : Table) (i : Nat) (hi : i ≤ l.length) (A : Option Addr) (c base vb : Nat) (w : World) (hown : Own w base 53 Table.cells 6 A c l) (hbase : base ≤ w.heap.size) (hv : Box w vb 53 t.cells.toArray) (hvg : ownBlk A ≠ some vb) :
    Calls Try.prog 62 #[.slice A l.length c, .int .i64 i, .slice (some ⟨vb, 0, none⟩) 1 1] w fun e w' => ∃ A' c', e = .returned (.slice A' (l.length + 1) c') ∧ Own w' base 53 Table.cells 6 A' c' (l.take i ++ t :: l.drop i) ∧ w.grownBy w' (ownBlk A) ∧ (∀ g, ownBlk A' = some g → ownBlk A = some g ∨ w.heap.size ≤ g) := by
  by_cases hie : i = l.length
  · subst hie
    exact insert_end l hl t A c base vb w hown hbase hv
  · have hlt : i < l.length := by omega
    have hrow := hown.2
    rcases hrow with ⟨h1, h2⟩ | ⟨g, cap, cur, h1, hbg, hg, hnc, hcm, hcs, htake⟩
    · omega
    · injection h1 with h1 _ h3
      subst h1 h3
      by_cases hc : l.length = c
      · refine (insert_grow l hl t i hlt g c base vb hc.symm w hown hbase hv (fun e => hvg (by rw [e]; rfl))).mono ?_
        rintro _ w' ⟨A', c', rfl, h1, h2, h3⟩
        exact ⟨A', c', rfl, h1, ⟨h2.os, h2.tape, h2.output, h2.size, fun k hk _ => h2.block k hk⟩, fun g' e => .inr (h3 g' e)⟩
      · refine (insert_placed l hl t i hlt g c base vb (by omega) w hown hv (fun e => hvg (by rw [e]; rfl))).mono ?_
        rintro _ w' ⟨rfl, h1, h2⟩
        exact ⟨_, c, rfl, h1, h2, fun g' e => .inl e⟩
end Go.Proofs.Yteplpgknnlehnaa
