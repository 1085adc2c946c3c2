/- Tables that live (layer 10): how they lie, and the small functions on them. -/
import Derived.Test.YteplpgknnlehnaaManDec2
import Derived.Test.YteplpgknnlehnaaFr
namespace Go.Proofs.Yteplpgknnlehnaa
set_option linter.unusedSimpArgs false
set_option linter.unusedVariables false
open Go.RowKit

/-- the tables that live, of four levels -/
structure Live where
  next : Nat
  seq : Nat
  log : Nat
  tab : Nat → List Table
def noLive : Live := ⟨0, 0, 0, fun _ => []⟩
/-- where the levels lie -/
structure Place where
  A : Nat → Option Addr
  c : Nat → Nat
def noPlace : Place := ⟨fun _ => none, fun _ => 0⟩
def Live.lev (v : Live) (p : Place) (k : Nat) : Value := .slice (p.A k) (v.tab k).length (p.c k)
def Live.cells (v : Live) (p : Place) : Array Value := #[.int .u64 v.next, .int .u64 v.seq, .int .u64 v.log, .slice (p.A 0) (v.tab 0).length (p.c 0), .slice (p.A 1) (v.tab 1).length (p.c 1), .slice (p.A 2) (v.tab 2).length (p.c 2), .slice (p.A 3) (v.tab 3).length (p.c 3)]
theorem Live.cell (v : Live) (p : Place) {k : Nat} (hk : k < 4) : (v.cells p)[3 + k]? = some (.slice (p.A k) (v.tab k).length (p.c k)) := by
  match k, hk with
  | 0, _ => rfl
  | 1, _ => rfl
  | 2, _ => rfl
  | 3, _ => rfl
def LiveAt (w : World) (v : Live) (p : Place) : Prop := ∀ k, k < 4 → Row w 0 w.heap.size 6 (p.A k) (v.tab k).length ((v.tab k).flatMap Table.cells)
theorem LiveAt.ext {w w' : World} {v : Live} {p : Place} (h : LiveAt w v p) (hb : Ext w w') : LiveAt w' v p := fun k hk => ((h k hk).below hb (Nat.le_refl _)).wide (Nat.le_refl _) hb.size

/-- the numbers of the tables in levels below k -/
def numsTo (v : Live) (k : Nat) : List Nat := (List.range k).flatMap fun j => (v.tab j).map Table.num
theorem numsTo_succ (v : Live) (k : Nat) : numsTo v (k + 1) = numsTo v k ++ (v.tab k).map Table.num := by simp [numsTo, List.range_succ]
theorem numsTo_le (v : Live) (hl : ∀ k, k < 4 → (v.tab k).length ≤ 1099511627776) : ∀ k, k ≤ 4 → (numsTo v k).length ≤ 4398046511104 := by
  have h : ∀ k, k ≤ 4 → (numsTo v k).length ≤ k * 1099511627776 := by
    intro k
    induction k with
    | zero => intro _; simp [numsTo]
    | succ k ih =>
      intro hk
      have h1 := ih (by omega)
      have h2 := hl k (by omega)
      rw [numsTo_succ, List.length_append, List.length_map]
      omega
  intro k hk
  have h1 := h k hk
  omega
theorem numsTo_part (v : Live) (hl : ∀ k, k < 4 → (v.tab k).length ≤ 1099511627776) {k j : Nat} (hk : k < 4) : (numsTo v k ++ ((v.tab k).take j).map Table.num).length ≤ 4398046511104 := by
  have h1 := numsTo_le v hl (k + 1) (by omega)
  rw [numsTo_succ] at h1
  simp only [List.length_append, List.length_map, List.length_take] at h1 ⊢
  omega
def numsOf (v : Live) : List Nat := numsTo v 4

set_option maxRecDepth 100000 in
set_option maxHeartbeats 800000 in
theorem among_any (l : List Nat) (hl : l.length ≤ 1099511627776) (n : Nat) (A : Option Addr) (c : Nat) (w : World) (hr : Row w 0 w.heap.size 1 A l.length (l.flatMap u64C)) :
    Calls Try.prog 64 #[.slice A l.length c, .int .u64 n] w fun e w' => e = .returned (.bool (decide (n ∈ l))) ∧ w = w' := by
  have HR := Lib.hid hr
  go_enter Try.func64, Try.ntmps64
  go_wp2_with fail
  go_loop [5] (fun i => ∃ k : Nat, k ≤ l.length ∧ i = .int .i64 k ∧ Hid (n ∉ l.take k)) (fun i => l.length - (intOf i).toNat)
  · exact ⟨0, by simp, rfl, by simp [Hid]⟩
  · obtain ⟨k, hk, rfl, hn⟩ := hrel
    by_cases hlt : k < l.length
    · obtain ⟨x, hx⟩ : ∃ x, l[k]? = some x := ⟨l[k], List.getElem?_eq_getElem hlt⟩
      obtain ⟨b, off, rfl, -, hbw, hc⟩ := HR.out.elem u64C_len rfl hx
      have hc0 := hc 0 _ rfl
      rw [Nat.add_zero, Nat.mul_one] at hc0
      have HX := Lib.hid hx
      clear hc hx hr
      by_cases hq : x = n
      · have he : ((x : Int) == (n : Int)) = true := by simp [hq]
        have hm : n ∈ l := by rw [← hq]; exact List.mem_of_getElem? HX.out
        have HD : Hid (decide (n ∈ l) = true) := decide_eq_true hm
        clear hq hm
        go_wp2
        go_ret
        exact ⟨by rw [HD.out]; rfl, rfl⟩
      · have he : ((x : Int) == (n : Int)) = false := by simp; omega
        have HN : Hid (n ∉ l.take (k + 1)) := by
          unfold Hid
          rw [List.take_add_one, HX.out]
          have h1 := hn.out
          simp only [Option.toList_some, List.mem_append, List.mem_singleton, not_or]
          exact ⟨h1, fun h => hq h.symm⟩
        clear hq
        go_wp2
        exact ⟨⟨k + 1, by omega, by simp, HN⟩, by simp [intOf]; omega⟩
    · have hn' := hn.out
      rw [List.take_of_length_le (by omega)] at hn'
      have HD : Hid (decide (n ∈ l) = false) := decide_eq_false hn'
      clear hn' hn
      go_wp2
      go_ret
      exact ⟨by rw [HD.out]; rfl, rfl⟩

/-- may a key lie in both? -/
def overB (a b : Table) : Bool := !ltB a.great b.least && !ltB b.great a.least
set_option maxRecDepth 100000 in
set_option maxHeartbeats 800000 in
theorem overlaps_any (a b : Table) (w : World) :
    Calls Try.prog 61 #[.agg a.cells.toArray, .agg b.cells.toArray] w fun e w' => e = .returned (.bool (overB a b)) ∧ Ext w w' := by
  obtain ⟨n1, l1, s1, c1, a1, g1⟩ := a
  obtain ⟨n2, l2, s2, c2, a2, g2⟩ := b
  dsimp only [Table.cells]
  have hg := @run_geq_str Try.prog
  have HM : Hid (∀ x : Bool, x = (!ltB g1 a2 && !ltB g2 a1) → x = overB ⟨n1, l1, s1, c1, a1, g1⟩ ⟨n2, l2, s2, c2, a2, g2⟩) := fun x hx => hx
  cases h1 : ltB g1 a2 <;> cases h2 : ltB g2 a1
  all_goals
    have e1 : Op.bytesLess g1 a2 = _ := h1
    have e2 : Op.bytesLess g2 a1 = _ := h2
    go_enter Try.func61, Try.ntmps61
    go_wp2
    go_ret
    refine ⟨congrArg (fun b => Ending.returned (.bool b)) (HM.out _ ?_), by (repeat (first | exact Below.refl _ _ | refine Ext.trans' ?_ (Ext.al _ _) | refine Ext.trans' ?_ (Ext.dr _) | refine Ext.trans' ?_ (by assumption)))⟩
    simp [h1, h2]
set_option maxRecDepth 100000 in
set_option maxHeartbeats 800000 in
theorem overlap_ref (a : Table) (least great : List UInt8) (w : World) :
    Calls Try.prog 65 #[.agg a.cells.toArray, str least, str great] w fun e w' => e = .returned (.bool (!ltB a.great least && !ltB great a.least)) ∧ Ext w w' := by
  obtain ⟨n1, l1, s1, c1, a1, g1⟩ := a
  dsimp only [Table.cells]
  have hg := @run_geq_str Try.prog
  cases h1 : ltB g1 least <;> cases h2 : ltB great a1
  all_goals
    have e1 : Op.bytesLess g1 least = _ := h1
    have e2 : Op.bytesLess great a1 = _ := h2
    go_enter Try.func65, Try.ntmps65
    go_wp2
    go_ret
    exact ⟨by simp [h1, h2], by (repeat (first | exact Below.refl _ _ | refine Ext.trans' ?_ (Ext.al _ _) | refine Ext.trans' ?_ (Ext.dr _) | refine Ext.trans' ?_ (by assumption)))⟩

set_option maxRecDepth 100000 in
set_option maxHeartbeats 800000 in
theorem numbers_ref (v : Live) (p : Place) (hl : ∀ k, k < 4 → (v.tab k).length ≤ 1099511627776) (w : World) (hr : LiveAt w v p) :
    Calls Try.prog 63 #[.agg (v.cells p)] w fun e w' => ∃ A c, e = .returned (.slice A (numsOf v).length c) ∧ Row w' 0 w'.heap.size 1 A (numsOf v).length ((numsOf v).flatMap u64C) ∧ Ext w w' := by
  have HR := Lib.hid (fun w' (hb : Ext w w') => hr.ext hb)
  have HL := Lib.hid hl
  clear hr hl
  go_enter Try.func63, Try.ntmps63
  go_wp2_with fail
  obtain ⟨S, hS⟩ : ∃ S, w.heap.size = S := ⟨_, rfl⟩
  (obtain ⟨w0, hw0⟩ : ∃ w0, w0 = World.alloc w (.cells (v.cells p) 48) := ⟨_, rfl⟩); (have hbox_w0 : Box w0 (w).heap.size 48 (v.cells p) := by rw [hw0]; exact Box.new _ _ _); (have hE_w0 : Ext w w0 := by rw [hw0]; exact Ext.al _ _); (have hz_w0 : (w0).heap.size = (w).heap.size + 1 := by rw [hw0]; simp); rw [← hw0]; clear hw0
  rw [hS] at hbox_w0 hz_w0 ⊢
  go_loopw [3, 4] (fun o i wr => ∃ (k : Nat) (xs : List Nat) (A : Option Addr) (c : Nat), k ≤ 4 ∧ i = .int .i64 k ∧ o = .slice A xs.length c ∧ Hid (xs = numsTo v k) ∧ Own wr (S + 1) 22 u64C 1 A c xs ∧ Box wr S 48 (v.cells p) ∧ Ext w wr) (fun _ i _ => 4 - (intOf i).toNat)
  · exact ⟨0, [], none, 0, by omega, rfl, rfl, rfl, Own.nil_, hbox_w0, hE_w0⟩
  · obtain ⟨k, xs, A, c, hk, rfl, rfl, hxs, hown, hbox, hX⟩ := hrel
    clear hbox_w0 hE_w0 hz_w0
    by_cases hlt : k < 4
    · have hcell := v.cell p hlt
      have hlk := HL.out k hlt
      have hrow := HR.out _ hX k hlt
      go_wp2_with fail
      have hd : decide ((k : Int) < 4) = true := by simp; omega
      rw [hd]
      clear hd
      go_loopw [3, 5] (fun o i wr => ∃ (j : Nat) (ys : List Nat) (A : Option Addr) (c : Nat), j ≤ (v.tab k).length ∧ i = .int .i64 j ∧ o = .slice A ys.length c ∧ Hid (ys = xs ++ ((v.tab k).take j).map Table.num) ∧ Own wr (S + 1) 22 u64C 1 A c ys ∧ Box wr S 48 (v.cells p) ∧ Ext w wr) (fun _ i _ => (v.tab k).length - (intOf i).toNat)
      · exact ⟨0, xs, A, c, by omega, rfl, rfl, by simp [Hid], hown, hbox, hX⟩
      · clear hown hbox hX hrow
        obtain ⟨j, ys, A, c, hj, rfl, rfl, hys, hown, hbox, hX⟩ := hrel
        have hbc := hbox.cell (3 + k)
        rw [hcell] at hbc
        by_cases hlj : j < (v.tab k).length
        · obtain ⟨t, ht⟩ : ∃ t, (v.tab k)[j]? = some t := ⟨_, List.getElem?_eq_getElem hlj⟩
          have hrow := HR.out _ hX k hlt
          obtain ⟨b, off, hA, -, hbw, hc⟩ := hrow.elem Table.cells_len rfl ht
          have hc0 := hc 0 _ rfl
          rw [Nat.add_zero] at hc0
          rw [hA] at hbc
          have hyl := numsTo_part v HL.out (k := k) (j := j) hlt
          rw [← hxs.out, ← hys.out] at hyl
          clear hc hrow
          go_wp2_with (at_builtin; refine wpList_push Try.numbersOf rfl _ _ rfl t.num rfl hown rfl (by first | rfl | (simp; done) | (simp; rfl)) rfl (u64C_len _) (u64C_one _) (by omega) (by omega) (by have := hbox.lt; omega) ?_)
          rintro A' c' w10 hown' hg
          have hX2 := hown.below_push hX (by omega) hX.size hg
          have hb2 := (hbox.alloc _).grown hg (fun e => by have := (hown.blk _ e.symm).1; omega)
          have HYS : Hid (ys ++ [t.num] = xs ++ ((v.tab k).take (j + 1)).map Table.num) := by
            unfold Hid
            rw [hys.out, List.take_add_one, ht]
            simp
          clear hbc hc0 hyl hown hbox hX hg hcell
          go_wp2
          exact ⟨⟨j + 1, ys ++ [t.num], A', c', by omega, by simp, by simp, HYS, hown', hb2, hX2⟩, by simp [intOf]; omega⟩
        · have hjl : j = (v.tab k).length := by omega
          have HYS : Hid (ys = numsTo v (k + 1)) := by
            unfold Hid
            rw [hys.out, hxs.out, numsTo_succ, List.take_of_length_le (by omega)]
          clear hys
          go_wp2
          exact ⟨⟨k + 1, ys, A, c, by omega, by simp, rfl, HYS, hown, hbox, hX⟩, by simp [intOf]; omega⟩
    · have hk4 : k = 4 := by omega
      subst hk4
      have HRW := Lib.hid (hown.row.wide (Nat.zero_le _) (Nat.le_refl _))
      clear hown
      go_wp2
      go_ret
      have h1 : xs = numsOf v := hxs.out
      subst h1
      exact ⟨A, c, rfl, HRW.out, hX⟩
end Go.Proofs.Yteplpgknnlehnaa
