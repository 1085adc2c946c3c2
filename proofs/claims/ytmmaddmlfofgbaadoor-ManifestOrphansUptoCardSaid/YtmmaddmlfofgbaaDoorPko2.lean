/- Parts of this work, one behind the other: Apl, Set, SSet, Mem12, Mem13, Mem14, Mem15, Mem16, Mem17, Mem18, MemS, SameT, Apl2, Ins, Ins2, FrTake, Back, FrAt, Read. -/
import Derived.Maps.OwnSet
import Derived.StringKeys
import Derived.Defers
import Derived.Laws.OwnMore
import Derived.WalkSmall
import Derived.Test.YtmmaddmlfofgbaaDoorProg
import Derived.WalkMore
import Derived.IntWalk
import Derived.BigGuardPart
import Derived.Lib.Overlaps
import Derived.Test.YtmmaddmlfofgbaaDoorRows
import Derived.Deep.Slices
import Derived.Deep.Strs
import Derived.ProofKit
import Derived.Test.YtmmaddmlfofgbaaDoorPko1
import Derived.Test.YtmmaddmlfofgbaaDoorPko0
/- Tables that live (layer 10): how they lie, and the small functions on them. -/
namespace Go.Proofs.YtmmaddmlfofgbaaDoor
set_option linter.unusedSimpArgs false
set_option linter.unusedVariables false
open Go.RowKit

/-- the tables that live, of four levels -/
structure Live where
  next : Nat
  seq : Nat
  log : Nat
  tab : Nat → List Table
def noLive : Live := ⟨0, 0, 0, fun _ => []⟩
/-- where the levels lie -/
structure Place where
  A : Nat → Option Addr
  c : Nat → Nat
def noPlace : Place := ⟨fun _ => none, fun _ => 0⟩
def Live.lev (v : Live) (p : Place) (k : Nat) : Value := .slice (p.A k) (v.tab k).length (p.c k)
def Live.cells (v : Live) (p : Place) : Array Value := #[.int .u64 v.next, .int .u64 v.seq, .int .u64 v.log, .slice (p.A 0) (v.tab 0).length (p.c 0), .slice (p.A 1) (v.tab 1).length (p.c 1), .slice (p.A 2) (v.tab 2).length (p.c 2), .slice (p.A 3) (v.tab 3).length (p.c 3)]
theorem Live.cell (v : Live) (p : Place) {k : Nat} (hk : k < 4) : (v.cells p)[3 + k]? = some (.slice (p.A k) (v.tab k).length (p.c k)) := by
  match k, hk with
  | 0, _ => rfl
  | 1, _ => rfl
  | 2, _ => rfl
  | 3, _ => rfl
def LiveAt (w : World) (v : Live) (p : Place) : Prop := ∀ k, k < 4 → Row w 0 w.heap.size 6 (p.A k) (v.tab k).length ((v.tab k).flatMap Table.cells)
theorem LiveAt.ext {w w' : World} {v : Live} {p : Place} (h : LiveAt w v p) (hb : Ext w w') : LiveAt w' v p := fun k hk => ((h k hk).below hb (Nat.le_refl _)).wide (Nat.le_refl _) hb.size

/-- the numbers of the tables in levels below k -/
def numsTo (v : Live) (k : Nat) : List Nat := (List.range k).flatMap fun j => (v.tab j).map Table.num
theorem numsTo_succ (v : Live) (k : Nat) : numsTo v (k + 1) = numsTo v k ++ (v.tab k).map Table.num := by simp [numsTo, List.range_succ]
theorem numsTo_le (v : Live) (hl : ∀ k, k < 4 → (v.tab k).length ≤ 1099511627776) : ∀ k, k ≤ 4 → (numsTo v k).length ≤ 4398046511104 := by
  have h : ∀ k, k ≤ 4 → (numsTo v k).length ≤ k * 1099511627776 := by
    intro k
    induction k with
    | zero => intro _; simp [numsTo]
    | succ k ih =>
      intro hk
      have h1 := ih (by omega)
      have h2 := hl k (by omega)
      rw [numsTo_succ, List.length_append, List.length_map]
      omega
  intro k hk
  have h1 := h k hk
  omega
theorem numsTo_part (v : Live) (hl : ∀ k, k < 4 → (v.tab k).length ≤ 1099511627776) {k j : Nat} (hk : k < 4) : (numsTo v k ++ ((v.tab k).take j).map Table.num).length ≤ 4398046511104 := by
  have h1 := numsTo_le v hl (k + 1) (by omega)
  rw [numsTo_succ] at h1
  simp only [List.length_append, List.length_map, List.length_take] at h1 ⊢
  omega
def numsOf (v : Live) : List Nat := numsTo v 4

set_option maxRecDepth 100000 in
set_option maxHeartbeats 800000 in
theorem among_any (l : List Nat) (hl : l.length ≤ 1099511627776) (n : Nat) (A : Option Addr) (c : Nat) (w : World) (hr : Row w 0 w.heap.size 1 A l.length (l.flatMap u64C)) :
    Calls Tryd.prog 15 #[.slice A l.length c, .int .u64 n] w fun e w' => e = .returned (.bool (decide (n ∈ l))) ∧ w = w' := by
  have HR := Lib.hid hr
  go_enter Tryd.func15, Tryd.ntmps15
  go_wp2_with fail
  go_loop [5] (fun i => ∃ k : Nat, k ≤ l.length ∧ i = .int .i64 k ∧ Hid (n ∉ l.take k)) (fun i => l.length - (intOf i).toNat)
  · exact ⟨0, by simp, rfl, by simp [Hid]⟩
  · obtain ⟨k, hk, rfl, hn⟩ := hrel
    by_cases hlt : k < l.length
    · obtain ⟨x, hx⟩ : ∃ x, l[k]? = some x := ⟨l[k], List.getElem?_eq_getElem hlt⟩
      obtain ⟨b, off, rfl, -, hbw, hc⟩ := HR.out.elem u64C_len rfl hx
      have hc0 := hc 0 _ rfl
      rw [Nat.add_zero, Nat.mul_one] at hc0
      have HX := Lib.hid hx
      clear hc hx hr
      by_cases hq : x = n
      · have he : ((x : Int) == (n : Int)) = true := by simp [hq]
        have hm : n ∈ l := by rw [← hq]; exact List.mem_of_getElem? HX.out
        have HD : Hid (decide (n ∈ l) = true) := decide_eq_true hm
        clear hq hm
        go_wp2
        go_ret
        exact ⟨by rw [HD.out]; rfl, rfl⟩
      · have he : ((x : Int) == (n : Int)) = false := by simp; omega
        have HN : Hid (n ∉ l.take (k + 1)) := by
          unfold Hid
          rw [List.take_add_one, HX.out]
          have h1 := hn.out
          simp only [Option.toList_some, List.mem_append, List.mem_singleton, not_or]
          exact ⟨h1, fun h => hq h.symm⟩
        clear hq
        go_wp2
        exact ⟨⟨k + 1, by omega, by simp, HN⟩, by simp [intOf]; omega⟩
    · have hn' := hn.out
      rw [List.take_of_length_le (by omega)] at hn'
      have HD : Hid (decide (n ∈ l) = false) := decide_eq_false hn'
      clear hn' hn
      go_wp2
      go_ret
      exact ⟨by rw [HD.out]; rfl, rfl⟩

/-- may a key lie in both? -/
def overB (a b : Table) : Bool := !ltB a.great b.least && !ltB b.great a.least
set_option maxRecDepth 100000 in
set_option maxHeartbeats 800000 in
theorem overlap_ref (a : Table) (least great : List UInt8) (w : World) :
    Calls Tryd.prog 18 #[.agg a.cells.toArray, str least, str great] w fun e w' => e = .returned (.bool (!ltB a.great least && !ltB great a.least)) ∧ Ext w w' := by
  obtain ⟨n1, l1, s1, c1, a1, g1⟩ := a
  dsimp only [Table.cells]
  have hg := @run_geq_str Tryd.prog
  cases h1 : ltB g1 least <;> cases h2 : ltB great a1
  all_goals
    have e1 : Op.bytesLess g1 least = _ := h1
    have e2 : Op.bytesLess great a1 = _ := h2
    go_enter Tryd.func18, Tryd.ntmps18
    go_wp2
    go_ret
    exact ⟨by simp [h1, h2], by (repeat (first | exact Below.refl _ _ | refine Ext.trans' ?_ (Ext.al _ _) | refine Ext.trans' ?_ (Ext.dr _) | refine Ext.trans' ?_ (by assumption)))⟩

set_option maxRecDepth 100000 in
set_option maxHeartbeats 800000 in
theorem numbers_ref (v : Live) (p : Place) (hl : ∀ k, k < 4 → (v.tab k).length ≤ 1099511627776) (w : World) (hr : LiveAt w v p) :
    Calls Tryd.prog 16 #[.agg (v.cells p)] w fun e w' => ∃ A c, e = .returned (.slice A (numsOf v).length c) ∧ Row w' 0 w'.heap.size 1 A (numsOf v).length ((numsOf v).flatMap u64C) ∧ Ext w w' := by
  have HR := Lib.hid (fun w' (hb : Ext w w') => hr.ext hb)
  have HL := Lib.hid hl
  clear hr hl
  go_enter Tryd.func16, Tryd.ntmps16
  go_wp2_with fail
  obtain ⟨S, hS⟩ : ∃ S, w.heap.size = S := ⟨_, rfl⟩
  (obtain ⟨w0, hw0⟩ : ∃ w0, w0 = World.alloc w (.cells (v.cells p) 28) := ⟨_, rfl⟩); (have hbox_w0 : Box w0 (w).heap.size 28 (v.cells p) := by rw [hw0]; exact Box.new _ _ _); (have hE_w0 : Ext w w0 := by rw [hw0]; exact Ext.al _ _); (have hz_w0 : (w0).heap.size = (w).heap.size + 1 := by rw [hw0]; simp); rw [← hw0]; clear hw0
  rw [hS] at hbox_w0 hz_w0 ⊢
  go_loopw [3, 4] (fun o i wr => ∃ (k : Nat) (xs : List Nat) (A : Option Addr) (c : Nat), k ≤ 4 ∧ i = .int .i64 k ∧ o = .slice A xs.length c ∧ Hid (xs = numsTo v k) ∧ Own wr (S + 1) 24 u64C 1 A c xs ∧ Box wr S 28 (v.cells p) ∧ Ext w wr) (fun _ i _ => 4 - (intOf i).toNat)
  · exact ⟨0, [], none, 0, by omega, rfl, rfl, rfl, Own.nil_, hbox_w0, hE_w0⟩
  · obtain ⟨k, xs, A, c, hk, rfl, rfl, hxs, hown, hbox, hX⟩ := hrel
    clear hbox_w0 hE_w0 hz_w0
    by_cases hlt : k < 4
    · have hcell := v.cell p hlt
      have hlk := HL.out k hlt
      have hrow := HR.out _ hX k hlt
      go_wp2_with fail
      have hd : decide ((k : Int) < 4) = true := by simp; omega
      rw [hd]
      clear hd
      go_loopw [3, 5] (fun o i wr => ∃ (j : Nat) (ys : List Nat) (A : Option Addr) (c : Nat), j ≤ (v.tab k).length ∧ i = .int .i64 j ∧ o = .slice A ys.length c ∧ Hid (ys = xs ++ ((v.tab k).take j).map Table.num) ∧ Own wr (S + 1) 24 u64C 1 A c ys ∧ Box wr S 28 (v.cells p) ∧ Ext w wr) (fun _ i _ => (v.tab k).length - (intOf i).toNat)
      · exact ⟨0, xs, A, c, by omega, rfl, rfl, by simp [Hid], hown, hbox, hX⟩
      · clear hown hbox hX hrow
        obtain ⟨j, ys, A, c, hj, rfl, rfl, hys, hown, hbox, hX⟩ := hrel
        have hbc := hbox.cell (3 + k)
        rw [hcell] at hbc
        by_cases hlj : j < (v.tab k).length
        · obtain ⟨t, ht⟩ : ∃ t, (v.tab k)[j]? = some t := ⟨_, List.getElem?_eq_getElem hlj⟩
          have hrow := HR.out _ hX k hlt
          obtain ⟨b, off, hA, -, hbw, hc⟩ := hrow.elem Table.cells_len rfl ht
          have hc0 := hc 0 _ rfl
          rw [Nat.add_zero] at hc0
          rw [hA] at hbc
          have hyl := numsTo_part v HL.out (k := k) (j := j) hlt
          rw [← hxs.out, ← hys.out] at hyl
          clear hc hrow
          go_wp2_with (at_builtin; refine wpList_push Tryd.numbersOf rfl _ _ rfl t.num rfl hown rfl (by first | rfl | (simp; done) | (simp; rfl)) rfl (u64C_len _) (u64C_one _) (by omega) (by omega) (by have := hbox.lt; omega) ?_)
          rintro A' c' w10 hown' hg
          have hX2 := hown.below_push hX (by omega) hX.size hg
          have hb2 := (hbox.alloc _).grown hg (fun e => by have := (hown.blk _ e.symm).1; omega)
          have HYS : Hid (ys ++ [t.num] = xs ++ ((v.tab k).take (j + 1)).map Table.num) := by
            unfold Hid
            rw [hys.out, List.take_add_one, ht]
            simp
          clear hbc hc0 hyl hown hbox hX hg hcell
          go_wp2
          exact ⟨⟨j + 1, ys ++ [t.num], A', c', by omega, by simp, by simp, HYS, hown', hb2, hX2⟩, by simp [intOf]; omega⟩
        · have hjl : j = (v.tab k).length := by omega
          have HYS : Hid (ys = numsTo v (k + 1)) := by
            unfold Hid
            rw [hys.out, hxs.out, numsTo_succ, List.take_of_length_le (by omega)]
          clear hys
          go_wp2
          exact ⟨⟨k + 1, ys, A, c, by omega, by simp, rfl, HYS, hown, hbox, hX⟩, by simp [intOf]; omega⟩
    · have hk4 : k = 4 := by omega
      subst hk4
      have HRW := Lib.hid (hown.row.wide (Nat.zero_le _) (Nat.le_refl _))
      clear hown
      go_wp2
      go_ret
      have h1 : xs = numsOf v := hxs.out
      subst h1
      exact ⟨A, c, rfl, HRW.out, hX⟩
end Go.Proofs.YtmmaddmlfofgbaaDoor
/- Sets of numbers kept as a map of bools: how such a map is asked and written. -/
namespace Go.Proofs.YtmmaddmlfofgbaaDoor
set_option linter.unusedSimpArgs false
set_option linter.unusedVariables false
open Go.RowKit Go.Maps

theorem plainElem_bool_inv {P : Program} {e : TypeId} (he : P.underlying e = some .bool) {v : Value} {z : DataW Unit × List MemPlace} (h : plainElem P e v = some z) : ∃ x, v = .bool x ∧ z = (.lit (.bool x), []) := by
  unfold plainElem at h
  rw [he] at h
  cases v <;> simp at h
  exact ⟨_, rfl, h.symm⟩

/-- block b is a map of at most n entries that says f of each number -/
def BSet (P : Program) (k e : TypeId) (w : World) (b n : Nat) (f : Nat → Bool) : Prop :=
  ∃ D : DataW Unit, w.ownsMap P k (plainElem P e) b n D ∧ ∀ x : Nat, D.atKey (.int .u64 x) (.lit (.bool false)) = .lit (.bool (f x))

namespace BSet
variable {P : Program} {k e : TypeId} {w w' : World} {b n : Nat} {f : Nat → Bool}
theorem made (w : World) : BSet P k e (w.alloc (.map #[] 0)) w.heap.size 0 (fun _ => false) := ⟨.map [], World.ownsMap_made w P k _, fun _ => rfl⟩
theorem lt (h : BSet P k e w b n f) : b < w.heap.size := by obtain ⟨D, h, _⟩ := h; exact h.lt
theorem keep (h : BSet P k e w b n f) (hk : w'.heap[b]? = w.heap[b]?) : BSet P k e w' b n f := by
  obtain ⟨D, ⟨es, clock, hb, F, hs, hD⟩, hf⟩ := h
  exact ⟨D, ⟨es, clock, hk.trans hb, F, hs, hD⟩, hf⟩
theorem ext (h : BSet P k e w b n f) (hb : Ext w w') : BSet P k e w' b n f := h.keep (hb.block b h.lt)
theorem fr {S : Nat → Prop} (h : BSet P k e w b n f) (hf : Fr S w w') (hs : S b) : BSet P k e w' b n f := h.keep (hf.block b h.lt hs)
theorem alloc (h : BSet P k e w b n f) (o : Obj) : BSet P k e (w.alloc o) b n f := h.keep (Below.heap_alloc w o b h.lt)
theorem far (h : BSet P k e w b n f) {p : Addr} (hp : b ≠ p.block) (u : Value) : BSet P k e (w.setCell p u) b n f := h.keep (Below.heap_setCell w p u b hp)
theorem grown (h : BSet P k e w b n f) {row : Option Nat} (hg : w.grownBy w' row) (hne : some b ≠ row) : BSet P k e w' b n f := h.keep (hg.block b h.lt hne)
theorem mono (h : BSet P k e w b n f) {n' : Nat} (hn : n ≤ n') : BSet P k e w b n' f := by
  obtain ⟨D, h, hf⟩ := h
  exact ⟨D, h.mono hn, hf⟩
theorem congr (h : BSet P k e w b n f) {g : Nat → Bool} (hg : ∀ x, f x = g x) : BSet P k e w b n g := by
  obtain ⟨D, h, hf⟩ := h
  exact ⟨D, h, fun x => by rw [hf, hg]⟩
end BSet
end Go.Proofs.YtmmaddmlfofgbaaDoor
/- Sets of texts kept as a map of bools: how such a map is asked and written. -/
namespace Go.Proofs.YtmmaddmlfofgbaaDoor
set_option linter.unusedSimpArgs false
set_option linter.unusedVariables false
open Go.RowKit Go.Maps
open Go.WideMaps (keyOf_string_mk)

/-- block b is a map of at most n entries that says f of each text -/
def SSet (P : Program) (k e : TypeId) (w : World) (b n : Nat) (f : List UInt8 → Bool) : Prop :=
  ∃ D : DataW Unit, w.ownsMap P k (plainElem P e) b n D ∧ ∀ x : List UInt8, D.atKey (.string x) (.lit (.bool false)) = .lit (.bool (f x))

namespace SSet
variable {P : Program} {k e : TypeId} {w w' : World} {b n : Nat} {f : List UInt8 → Bool}
theorem made (w : World) : SSet P k e (w.alloc (.map #[] 0)) w.heap.size 0 (fun _ => false) := ⟨.map [], World.ownsMap_made w P k _, fun _ => rfl⟩
theorem lt (h : SSet P k e w b n f) : b < w.heap.size := by obtain ⟨D, h, _⟩ := h; exact h.lt
theorem keep (h : SSet P k e w b n f) (hk : w'.heap[b]? = w.heap[b]?) : SSet P k e w' b n f := by
  obtain ⟨D, ⟨es, clock, hb, F, hs, hD⟩, hf⟩ := h
  exact ⟨D, ⟨es, clock, hk.trans hb, F, hs, hD⟩, hf⟩
theorem ext (h : SSet P k e w b n f) (hb : Ext w w') : SSet P k e w' b n f := h.keep (hb.block b h.lt)
theorem fr {S : Nat → Prop} (h : SSet P k e w b n f) (hf : Fr S w w') (hs : S b) : SSet P k e w' b n f := h.keep (hf.block b h.lt hs)
theorem mono (h : SSet P k e w b n f) {n' : Nat} (hn : n ≤ n') : SSet P k e w b n' f := by
  obtain ⟨D, h, hf⟩ := h
  exact ⟨D, h.mono hn, hf⟩
theorem congr (h : SSet P k e w b n f) {g : List UInt8 → Bool} (hg : ∀ x, f x = g x) : SSet P k e w b n g := by
  obtain ⟨D, h, hf⟩ := h
  exact ⟨D, h, fun x => by rw [hf, hg]⟩
end SSet
theorem ne_slit {x y : List UInt8} (h : x ≠ y) : (Lit.string x) ≠ .string y := by
  intro e
  injection e with e
  exact h e
section
variable {P : Program} {w : World} {o : Oper} {a : Act} {K : Act → World → Prop} {Q : Exit → Act → World → Prop} {t k e : TypeId} {b n : Nat} {f : List UInt8 → Bool}
/-- `m[k]` -/
theorem wp_sasks (m x : Operand) (hop : o.op = Op.lookup t m x false) (ht : P.underlying t = some (.map k e)) (hk : P.underlying k = some .string) (he : P.underlying e = some .bool) (hz : (zeroValue e).run P w = .ok (.bool false) w)
    (hs : SSet P k e w b n f) (hm : a.eval m = .map (some b)) {s : List UInt8} (hv : s.length ≤ 140737488355328) (hx : a.eval x = str s)
    (hK : K (a.put o.dst (.bool (f s))) w) : o.wp P a w K Q := by
  obtain ⟨D, hown, hf⟩ := hs
  obtain ⟨u, ps, hrun, hR⟩ := hown.lookup (string_keyed hk) ht hz (plainElem_bool he false) (keyOf_string_mk hk (s := ⟨s.toArray⟩) (by show s.toArray.size ≤ _; unfold maxLen; simp; omega))
  obtain ⟨c, rfl, hc⟩ := plainElem_bool_inv he hR
  have hc1 := congrArg Prod.fst hc
  dsimp only at hc1
  rw [hf] at hc1
  injection hc1 with hc1
  injection hc1 with hc1
  subst hc1
  unfold Oper.wp
  simp [execOp, hop, hm, hx, hrun, Result.andThen]
  exact hK
end
end Go.Proofs.YtmmaddmlfofgbaaDoor
/- Structs within structs, over memory as a list of what lies in it. No program in sight. -/
namespace Go.Proofs.YtmmaddmlfofgbaaDoor
set_option linter.unusedSimpArgs false
set_option linter.unusedVariables false
open Go.RowKit Res

section
variable {P : Program} {S : Nat → Prop} {w0 w : World} {l : List Res} {o : Oper} {a : Act} {K : Act → World → Prop} {Q : Exit → Act → World → Prop}
variable {dst : Option Tmp} {t t' ty : TypeId} {x y : Operand} {pos : String} {after : Array Edge} {gd : Option (Nat × Bool)}
end
section
variable {P : Program} {S : Nat → Prop} {w0 w : World} {l : List Res} {Q : Exit → Act → World → Prop} {a a0 : Act} {L : List Oper} {i m : Nat} {sch : List (Nat × Bool)} {ss : List Nat} {dst : Option Tmp} {t ty : TypeId} {x : Operand} {pos : String} {after : Array Edge}
end
end Go.Proofs.YtmmaddmlfofgbaaDoor
/- Guarded reads in regions whose order is left open and that call. No program in sight. -/
namespace Go.Proofs.YtmmaddmlfofgbaaDoor
set_option linter.unusedSimpArgs false
set_option linter.unusedVariables false
open Go.RowKit Res
section
variable {P : Program} {S : Nat → Prop} {w0 w : World} {l : List Res} {Q : Exit → Act → World → Prop} {a a0 : Act} {B : Nat}
variable {L : List Oper} {i m : Nat} {sch : List (Nat × Bool)} {ss : List Nat} {dst : Option Tmp} {t ty : TypeId} {x : Operand} {pos : String} {after : Array Edge} {gd : Option (Nat × Bool)}
end
end Go.Proofs.YtmmaddmlfofgbaaDoor
/- Regions whose order is left open, with calls that may panic, in a function that defers (its results are read from cells). No program in sight. -/
namespace Go.Proofs.YtmmaddmlfofgbaaDoor
set_option linter.unusedSimpArgs false
set_option linter.unusedVariables false
open Go.RowKit Res
section
variable {P : Program} {S : Nat → Prop} {w0 w : World} {l : List Res} {a : Act}
end
end Go.Proofs.YtmmaddmlfofgbaaDoor
/- A region whose order is left open, walked as a tree: wherever two that do something may come up at once, both orders. No program in sight. -/
namespace Go.Proofs.YtmmaddmlfofgbaaDoor
set_option linter.unusedSimpArgs false
set_option linter.unusedVariables false
open Go.RowKit Res

section
variable {P : Program} {S : Nat → Prop} {w0 w : World} {l : List Res} {Q : Exit → Act → World → Prop} {a : Act} {ops : Array Oper} {R : World → World → Prop} {m : Nat}
/-- what the rest of a tree must come to -/
def treeQ (P : Program) (ops : Array Oper) (Q : Exit → Act → World → Prop) (R : World → World → Prop) (m : Nat) (t : Tr) : Exit → Act → World → Prop
  | .normal, a, w => wpTr P ops Q R m t a w
  | .panic c, a, w => Q (.panic c) a w
  | e, a, w => Q e a w
theorem treeQ_pre {t : Tr} (s : List (Nat × Bool)) (a : Act) (w : World) (h : wpSch P ops (treeQ P ops Q R m t) R m s a w) : wpTr P ops Q R m (Tr.pre s t) a w :=
  wpTr_pre (fun _ _ h => h) (fun e _ _ he h => by cases e <;> first | exact absurd rfl he | exact h) s a w h
theorem treeQ_done (h : Q .normal a w) : treeQ P ops Q R m .done .normal a w := h
theorem treeQ_fork {L : List Oper} {i j : Nat} {s1 s2 : List (Nat × Bool)} {t1 t2 : Tr} (h1 : wpSch P L.toArray (treeQ P L.toArray Q R m t1) R m ((i, false) :: s1) a w) (h2 : wpSch P L.toArray (treeQ P L.toArray Q R m t2) R m ((j, false) :: s2) a w) :
    treeQ P L.toArray Q R m (.fork i j (Tr.pre s1 t1) (Tr.pre s2 t2)) .normal a w := wpTr_fork (treeQ_pre ((i, false) :: s1) a w h1) (treeQ_pre ((j, false) :: s2) a w h2)
theorem wp_region_treeR (M : Mem S w0 l w) (ss : List Nat) {id : Nat} {L : List Oper} (m : Nat) (pre : List (Nat × Bool)) (t : Tr) (hm : P.follows .mixedOrders = true)
    (hB : regionOk2 L.toArray m (Tr.pre pre t) = true)
    (hQ : ∀ c a d v w, Q (.panic c) (Act.put a d v) w → Q (.panic c) a w)
    (h : ∀ w', Mem S w0 l w' → wpSch P L.toArray (treeQ P L.toArray Q (keepR a ss) m t) (keepR a ss) m pre a w') : (Code.region id L.toArray true).wp P Q a w :=
  wp_region_tr (keepR a ss) m _ hm hB keepR.refl keepR.trans hQ (treeQ_pre pre a w.drew (h w.drew M.drew))
end
section
variable {P : Program} {w0 w : World} {l : List Res} {Q : Exit → Act → World → Prop} {a : Act}
end
/-- none of the slots' blocks is the row's -/
def OffO (a : Act) (ss : List Nat) (A : Option Addr) : Prop := ∀ s ∈ ss, ∀ g' i, a.eval (.tmp s) = .pointer (some ⟨g', i, none⟩) → ¬ ownBlk A = some g'
theorem OffO.nil {a : Act} {A : Option Addr} : OffO a [] A := fun _ h => by cases h
theorem OffO.cons {a : Act} {s : Nat} {ss : List Nat} {A : Option Addr} {g' i : Nat} (hb : a.eval (.tmp s) = .pointer (some ⟨g', i, none⟩)) (hne : ¬ ownBlk A = some g') (h : OffO a ss A) : OffO a (s :: ss) A := fun t ht k j hk => by
  rcases List.mem_cons.1 ht with rfl | ht
  · rw [hb] at hk
    injection hk with hk
    injection hk with hk
    injection hk with hk
    subst hk
    exact hne
  · exact h t ht k j hk
end Go.Proofs.YtmmaddmlfofgbaaDoor
/- The laws of memory in short forms: what can be found is found by itself. No program in sight. -/
namespace Go.Proofs.YtmmaddmlfofgbaaDoor
set_option linter.unusedSimpArgs false
set_option linter.unusedVariables false
open Go.RowKit Res

section
variable {P : Program} {S : Nat → Prop} {w0 w : World} {l : List Res} {a : Act} {K : Act → World → Prop} {Q : Exit → Act → World → Prop} {d : Tmp} {t ty u e : TypeId} {x y : Operand} {pos : String} {after : Array Edge} {gd : Option (Nat × Bool)} {g i : Nat} {cs ws : List Value} {v : Value} {f : Res → List Res}
theorem xl1 (M : Mem S w0 l w) (h : (Oper.mk (some d) (.move (.const v)) 0 "" #[] none).wp P a w K (fun _ _ _ => True)) (hx : a.eval x = .pointer (some ⟨g, i, none⟩) := by rfl) (p : Pick l (bx g u cs) f := by repeat (first | exact Pick.head | apply Pick.tail)) (hn : OneT P t := by exact (fun w => ⟨by first | (simp [go_sem]; done) | (simp [go_sem]; rfl), by first | (simp [go_sem]; done) | (simp [go_sem]; rfl)⟩)) (hv : cs[i]? = some v := by rfl) :
    (Oper.mk (some d) (.load t x) ty pos after gd).wp P a w K Q := wp_load1 M _ _ rfl g i hx p hn v hv h
theorem xlN (M : Mem S w0 l w) (h : (Oper.mk (some d) (.move (.const (.agg cs.toArray))) 0 "" #[] none).wp P a w K (fun _ _ _ => True)) (hx : a.eval x = .pointer (some ⟨g, 0, none⟩) := by rfl) (p : Pick l (bx g u cs) f := by repeat (first | exact Pick.head | apply Pick.tail)) (hn : RowT P t cs.length := by exact (fun w => ⟨by first | (simp [go_sem]; done) | (simp [go_sem]; rfl), by first | (simp [go_sem]; done) | (simp [go_sem]; rfl)⟩)) :
    (Oper.mk (some d) (.load t x) ty pos after gd).wp P a w K Q := wp_loadN M _ _ rfl g hx p hn h
theorem xlC (hv : w.cell? ⟨g, i, none⟩ = some v) (h : (Oper.mk (some d) (.move (.const v)) 0 "" #[] none).wp P a w K (fun _ _ _ => True)) (hx : a.eval x = .pointer (some ⟨g, i, none⟩) := by rfl) (hn : OneT P t := by exact (fun w => ⟨by first | (simp [go_sem]; done) | (simp [go_sem]; rfl), by first | (simp [go_sem]; done) | (simp [go_sem]; rfl)⟩)) :
    (Oper.mk (some d) (.load t x) ty pos after gd).wp P a w K Q := wp_load1C _ _ rfl g i hx v hv hn h
theorem xlR (hv : ∀ j u, cs[j]? = some u → w.cell? ⟨g, i + j, none⟩ = some u) (h : (Oper.mk (some d) (.move (.const (.agg cs.toArray))) 0 "" #[] none).wp P a w K (fun _ _ _ => True)) (hx : a.eval x = .pointer (some ⟨g, i, none⟩) := by rfl) (hn : RowT P t cs.length := by exact (fun w => ⟨by first | (simp [go_sem]; done) | (simp [go_sem]; rfl), by first | (simp [go_sem]; done) | (simp [go_sem]; rfl)⟩)) :
    (Oper.mk (some d) (.load t x) ty pos after gd).wp P a w K Q := wp_loadNC _ _ rfl g i hx cs hv hn h
theorem xs1 (M : Mem S w0 l w) (h : ∀ w', Mem S w0 (f (bx g u (cs.set i v))) w' → K a w') (hx : a.eval x = .pointer (some ⟨g, i, none⟩) := by rfl) (p : Pick l (bx g u cs) f := by repeat (first | exact Pick.head | apply Pick.tail)) (hn : OneT P t := by exact (fun w => ⟨by first | (simp [go_sem]; done) | (simp [go_sem]; rfl), by first | (simp [go_sem]; done) | (simp [go_sem]; rfl)⟩)) (hco : CellsOf (a.eval y) [v] := by first | exact CellsOf.agg _ | exact CellsOf.int _ _ | exact CellsOf.str _ | exact CellsOf.bool _ | exact CellsOf.slice _ _ _ | exact CellsOf.pointer _) (h1 : v.oneCell' = true := by rfl) (hi : i < cs.length := by (simp; done)) :
    (Oper.mk none (.store t x y) ty pos after gd).wp P a w K Q := wp_store1 M _ _ _ rfl g i hx p hn v hco h1 hi h
theorem xsN (M : Mem S w0 l w) (h : ∀ w', Mem S w0 (f (bx g u ws)) w' → K a w') (hx : a.eval x = .pointer (some ⟨g, 0, none⟩) := by rfl) (p : Pick l (bx g u cs) f := by repeat (first | exact Pick.head | apply Pick.tail)) (hn : RowT P t cs.length := by exact (fun w => ⟨by first | (simp [go_sem]; done) | (simp [go_sem]; rfl), by first | (simp [go_sem]; done) | (simp [go_sem]; rfl)⟩)) (hy : a.eval y = .agg ws.toArray := by rfl) (hl : ws.length = cs.length := by rfl) (h1 : ws.all (·.oneCell') = true := by rfl) :
    (Oper.mk none (.store t x y) ty pos after gd).wp P a w K Q := wp_storeN M _ _ _ rfl g hx p hn ws hy hl h1 h
theorem xb (M : Mem S w0 l w) (h : ∀ g w', Mem S w0 (bx g t cs :: l) w' → (Oper.mk (some d) (.move (.const (.pointer (some ⟨g, 0, none⟩)))) 0 "" #[] none).wp P a w' K (fun _ _ _ => True)) (hco : CellsOf (a.eval x) cs := by first | exact CellsOf.agg _ | exact CellsOf.int _ _ | exact CellsOf.str _ | exact CellsOf.bool _ | exact CellsOf.slice _ _ _ | exact CellsOf.pointer _) :
    (Oper.mk (some d) (.box t x) ty pos after gd).wp P a w K Q := wp_box M _ _ rfl cs hco h
theorem xa (M : Mem S w0 l w) (h : ∀ g w', Mem S w0 (bx g t cs :: l) w' → (Oper.mk (some d) (.move (.const (.pointer (some ⟨g, 0, none⟩)))) 0 "" #[] none).wp P a w' K (fun _ _ _ => True)) (hz : (zeroValue t).run P w = .ok v w := by (simp [go_sem]; rfl)) (hco : CellsOf v cs := by first | exact CellsOf.agg _ | exact CellsOf.int _ _ | exact CellsOf.str _ | exact CellsOf.bool _ | exact CellsOf.slice _ _ _ | exact CellsOf.pointer _) :
    (Oper.mk (some d) (.alloc t) ty pos after gd).wp P a w K Q := wp_alloc M _ rfl v hz cs hco h
theorem x1 (M : Mem S w0 l w) {sz bytes : Nat} (E : ElemOf P t e sz bytes) (h : ∀ g w', Mem S w0 (bx g e cs :: l) w' → (Oper.mk (some d) (.move (.const (.slice (some ⟨g, 0, none⟩) 1 1))) 0 "" #[] none).wp P a w' K (fun _ _ _ => True)) (hco : CellsOf (a.eval x) cs := by first | exact CellsOf.agg _ | exact CellsOf.int _ _ | exact CellsOf.str _ | exact CellsOf.bool _ | exact CellsOf.slice _ _ _ | exact CellsOf.pointer _) (hl : cs.length = sz := by rfl) (hsm : sz ≤ 16777216 := by decide) :
    (Oper.mk (some d) (.buildSlice t 1 #[(0, x)]) ty pos after gd).wp P a w K Q := wp_single M E x rfl cs hco hl hsm h
/-- an append of one made for it -/
theorem xap (M : Mem S w0 l w) {sz bytes : Nat} (E : ElemOf P t e sz bytes) {α : Type} {F : α → List Value} {A : Option Addr} {c n : Nat} {xs : List α} {f2 : Res → List Res} (z : α) (hf : ∀ x, (F x).length = sz) (h1 : ∀ x, ∀ u ∈ F x, u.oneCell' = true)
    (h : ∀ A' c' w', Mem S w0 (f (ow e F sz A' c' (xs ++ [z]))) w' → (Oper.mk (some d) (.move (.const (.slice A' (xs.length + 1) c'))) 0 "" #[] none).wp P a w' K (fun _ _ _ => True))
    (hs : a.eval x = .slice A n c := by rfl) (hx : a.eval y = .slice (some ⟨g, 0, none⟩) 1 1 := by rfl) (p : Pick l (ow e F sz A c xs) f := by repeat (first | exact Pick.head | apply Pick.tail)) (hn : n = xs.length := by first | with_reducible rfl | (simp; done) | (simp; omega)) (p2 : Pick l (bx g u cs) f2 := by repeat (first | exact Pick.head | apply Pick.tail)) (hcs : cs = F z := by rfl)
    (hsmall : (xs.length + 1) * bytes ≤ 140737488355328 := by first | omega | (simp; done) | (simp; omega)) (hlen : xs.length + 1 ≤ 140737488355328 := by first | omega | (simp; done) | (simp; omega)) :
    (Oper.mk (some d) (.call ⟨.builtin .append, #[x, y], #[t, t]⟩) ty pos after gd).wp P a w K Q := by
  subst hcs
  exact wp_append1F M E _ _ rfl hs g hx p hn z p2 rfl hf h1 hsmall hlen (fun A' c' w' _ M' => h A' c' w' M')
end
section
variable {P : Program} {S : Nat → Prop} {w0 w : World} {l : List Res} {Q : Exit → Act → World → Prop} {a a0 : Act} {L : List Oper} {B j m i k : Nat} {sch : List (Nat × Bool)} {ss : List Nat} {dst : Option Tmp} {t ty u : TypeId} {x : Operand} {pos : String} {after : Array Edge} {g : Nat} {cs : List Value} {v : Value} {f : Res → List Res}
end
section
variable {P : Program} {S : Nat → Prop} {w0 w : World} {l : List Res} {a : Act} {K : Act → World → Prop} {Q : Exit → Act → World → Prop} {t ty u : TypeId} {x y : Operand} {pos : String} {after : Array Edge} {gd : Option (Nat × Bool)} {g i : Nat} {cs ws : List Value} {v : Value} {f : Res → List Res}
end
end Go.Proofs.YtmmaddmlfofgbaaDoor
/- Rows of the call's own: an element is written, the last one is dropped. No program in sight. -/
namespace Go.Proofs.YtmmaddmlfofgbaaDoor
set_option linter.unusedSimpArgs false
set_option linter.unusedVariables false
open Go.RowKit Res

section
variable {P : Program} {S : Nat → Prop} {w0 w : World} {l : List Res} {α : Type} {e : TypeId} {f : α → List Value} {sz : Nat} {A : Option Addr} {c : Nat} {xs : List α} {F : Res → List Res}
theorem Own.some_of {base : Nat} (h : Own w base e f sz A c xs) (hx : xs ≠ []) : ∃ g, A = some ⟨g, 0, none⟩ := by
  rcases h.2 with ⟨h', _⟩ | ⟨g', cap', cur, h', _⟩
  · simp only [Value.slice.injEq] at h'
    exact absurd (List.eq_nil_of_length_eq_zero h'.2.1) hx
  · simp only [Value.slice.injEq] at h'
    exact ⟨g', h'.1⟩
theorem Mem.some_of (M : Mem S w0 l w) (p : Pick l (ow e f sz A c xs) F) (hx : xs ≠ []) : ∃ g, A = some ⟨g, 0, none⟩ := Own.some_of (M.own p) hx
theorem Mem.cellO {g k j : Nat} {x : α} {u : Value} (hf : ∀ x, (f x).length = sz) (M : Mem S w0 l w) (p : Pick l (ow e f sz (some ⟨g, 0, none⟩) c xs) F) (hk : xs[k]? = some x) (hj : (f x)[j]? = some u) : w.cell? ⟨g, k * sz + j, none⟩ = some u := by
  have hjs : j < sz := by rw [← hf x]; exact (List.getElem?_eq_some_iff.1 hj).1
  have hks : k < xs.length := (List.getElem?_eq_some_iff.1 hk).1
  have h := World.ownsRow.cellAt (M.own p) (k * sz + j) (by
    have : k * sz + sz ≤ xs.length * sz := by
      rw [← Nat.succ_mul]
      exact Nat.mul_le_mul_right _ hks
    omega)
  rw [h, getElem?_flatMap hf xs k j hjs, hk]
  exact hj
theorem Mem.cap {A : Option Addr} (M : Mem S w0 l w) (p : Pick l (ow e f sz A c xs) F) : xs.length ≤ c := by
  have h : World.ownsRow _ _ _ _ _ _ _ := M.own p
  rcases h.2 with ⟨h', _⟩ | ⟨g', cap', cur, h', _, _, hn, _⟩
  · simp only [Value.slice.injEq] at h'
    omega
  · simp only [Value.slice.injEq] at h'
    omega
end
end Go.Proofs.YtmmaddmlfofgbaaDoor
/- Regions whose order is left open, in which one row of the call's own is appended to and all else stays; texts that are put together there. No program in sight. -/
namespace Go.Proofs.YtmmaddmlfofgbaaDoor
set_option linter.unusedSimpArgs false
set_option linter.unusedVariables false
open Go.RowKit Res

/-- all blocks but the row's stay -/
def keepO (A : Option Addr) (w w' : World) : Prop := w.heap.size ≤ w'.heap.size ∧ ∀ b, b < w.heap.size → ¬ ownBlk A = some b → w'.heap[b]? = w.heap[b]?
namespace keepO
variable {A : Option Addr} {w w' : World}
theorem refl (w : World) : keepO A w w := ⟨Nat.le_refl _, fun _ _ _ => rfl⟩
theorem trans (x y z : World) (h : keepO A x y) (k : keepO A y z) : keepO A x z := ⟨Nat.le_trans h.1 k.1, fun b hb hn => (k.2 b (Nat.lt_of_lt_of_le hb h.1) hn).trans (h.2 b hb hn)⟩
theorem ext (h : Ext w w') : keepO A w w' := ⟨h.size, fun b hb _ => h.block b hb⟩
theorem cell (h : keepO A w w') {g k : Nat} {v : Value} (hv : w.cell? ⟨g, k, none⟩ = some v) (hn : ¬ ownBlk A = some g) : w'.cell? ⟨g, k, none⟩ = some v :=
  (World.cell?_of_block (w := w) (a := ⟨g, k, none⟩) (h.2 g (block_lt_of_cell hv) hn)).trans hv
end keepO
section
variable {P : Program} {S : Nat → Prop} {w0 w : World} {l : List Res} {Q : Exit → Act → World → Prop} {a a0 : Act} {A : Option Addr} {f : Res → List Res}
variable {L : List Oper} {i m : Nat} {sch : List (Nat × Bool)} {dst : Option Tmp} {t u ty : TypeId} {x y : Operand} {pos : String} {after : Array Edge} {gd : Option (Nat × Bool)} {R : World → World → Prop} {b : BinOp}
variable {ops : Array Oper} {rest : List Oper} {Qs : Act → Prop}
end
end Go.Proofs.YtmmaddmlfofgbaaDoor
/- A set of texts (a map of bools) as a thing in the call's own memory. No program in sight. -/
namespace Go.Proofs.YtmmaddmlfofgbaaDoor
set_option linter.unusedSimpArgs false
set_option linter.unusedVariables false
open Go.RowKit Go.Maps Res
open Go.WideMaps (keyOf_string_mk)

/-- block b is such a set -/
def sm (P : Program) (k e : TypeId) (b n : Nat) (f : List UInt8 → Bool) : Res :=
  .th (fun x => x = b) (fun w => SSet P k e w b n f) (fun _ _ h hx => by rw [hx]; exact h.lt) (fun _ _ h hk => h.keep (hk b rfl))
section
variable {P : Program} {S : Nat → Prop} {w0 w : World} {l : List Res} {F : Res → List Res} {t k e : TypeId} {b n : Nat} {f : List UInt8 → Bool} {o : Oper} {a : Act} {K : Act → World → Prop} {Q : Exit → Act → World → Prop}
theorem Mem.sset (M : Mem S w0 l w) (p : Pick l (sm P k e b n f) F) : SSet P k e w b n f := M.get p
theorem Mem.conv {f' : List UInt8 → Bool} {n' : Nat} (M : Mem S w0 l w) (p : Pick l (sm P k e b n f) F) (hf : ∀ x, f x = f' x) (hn : n ≤ n') : Mem S w0 (F (sm P k e b n' f')) w :=
  M.put p (Fr.refl w) _ (((M.sset p).congr hf).mono hn) (fun _ h => .inl h)
/-- `map[string]bool{}` -/
theorem wp_mkmap (M : Mem S w0 l w) (ho : o.op = .makeMap t none) (ht : P.underlying t = some (.map k e))
    (h : ∀ b w', Ext w w' → Mem S w0 (sm P k e b 0 (fun _ => false) :: l) w' → K (a.put o.dst (.map (some b))) w') : o.wp P a w K Q := by
  unfold Oper.wp execOp
  simp [ho, Instr.makeMap, run_underlying ht, go_sem]
  exact h _ _ (Ext.al w _) (M.new (Ext.al w _) _ (SSet.made w) (fun b hb => Nat.le_of_eq (Eq.symm hb)))
/-- `m[k] = v`, also in a literal -/
theorem wp_sput (M : Mem S w0 l w) (m x u : Operand) (hop : o.op = Op.mapUpdate t m x u ∨ o.op = Op.insert t m x u) (ht : P.underlying t = some (.map k e)) (hk : P.underlying k = some .string) (he : P.underlying e = some .bool)
    (p : Pick l (sm P k e b n f) F) (hn : n < 140737488355328) (hm : a.eval m = .map (some b)) {s : List UInt8} {c : Bool} (hx : a.eval x = str s) (hu : a.eval u = .bool c) (hv : s.length ≤ 140737488355328)
    (h : ∀ w', Fr (· ≠ b) w w' → Mem S w0 (F (sm P k e b (n + 1) (fun y => if y = s then c else f y))) w' → K (a.put o.dst undef) w') : o.wp P a w K Q := by
  obtain ⟨D, hown, hf⟩ := M.sset p
  obtain ⟨w', hrun, h1, h2⟩ := hown.update (string_keyed hk) ht (by unfold maxLen; omega) (keyOf_string_mk hk (s := ⟨s.toArray⟩) (by show s.toArray.size ≤ _; unfold maxLen; simp; omega)) (plainElem_bool he c)
  rw [show (⟨s.toArray⟩ : ByteArray).data.toList = s by simp] at h1
  have hF : Fr (· ≠ b) w w' := Fr.of_grown h2 (fun g e _ h => h (by injection e with e; exact e.symm))
  have hS : SSet P k e w' b (n + 1) (fun y => if y = s then c else f y) := ⟨_, h1, fun y => by
    by_cases hy : y = s
    · subst hy
      rw [atKey_put_same hown.isMap (by simp [WideAt.IsKeyLit])]
      simp
    · rw [atKey_put_other (ne_slit hy), hf]
      simp [hy]⟩
  have hr := h w' hF (M.put p (Fr.mono hF fun x _ hx e => hx e) _ hS (fun _ h => .inl h))
  unfold Oper.wp
  rcases hop with hop | hop <;> simp [execOp, hop, hm, hx, hu, hrun, Result.andThen] <;> exact hr
/-- `m[k]` -/
theorem wp_sget (M : Mem S w0 l w) (m x : Operand) (hop : o.op = Op.lookup t m x false) (ht : P.underlying t = some (.map k e)) (hk : P.underlying k = some .string) (he : P.underlying e = some .bool) (hz : ∀ w, (zeroValue e).run P w = .ok (.bool false) w)
    (p : Pick l (sm P k e b n f) F) (hm : a.eval m = .map (some b)) {s : List UInt8} (hx : a.eval x = str s) (hv : s.length ≤ 140737488355328)
    (hK : K (a.put o.dst (.bool (f s))) w) : o.wp P a w K Q := wp_sasks m x hop ht hk he (hz w) (M.sset p) hm hv hx hK
theorem on_mapUpdate {dst : Option Tmp} {t ty : TypeId} {m x u : Operand} {pos : String} {after : Array Edge} {gd : Option (Nat × Bool)} (h : (Oper.mk dst (.mapUpdate t m x u) ty pos after gd).wp P a w K Q) : (Oper.mk dst (.mapUpdate t m x u) ty pos after gd).wp P a w K Q := h
theorem on_lookup {dst : Option Tmp} {t ty : TypeId} {m x : Operand} {ok : Bool} {pos : String} {after : Array Edge} {gd : Option (Nat × Bool)} (h : (Oper.mk dst (.lookup t m x ok) ty pos after gd).wp P a w K Q) : (Oper.mk dst (.lookup t m x ok) ty pos after gd).wp P a w K Q := h
end
end Go.Proofs.YtmmaddmlfofgbaaDoor
/- Two rows of the same texts, held against each other (layer 1, document; walk). -/
namespace Go.Proofs.YtmmaddmlfofgbaaDoor
set_option linter.unusedSimpArgs false
set_option linter.unusedVariables false
open Go.RowKit Res

abbrev fj (n : Int) : Value := .int .i64 n
set_option maxRecDepth 100000 in
set_option maxHeartbeats 800000 in
theorem sameT_some (l : List (List UInt8)) (hl : l.length ≤ 140737488355328) (b off b' off' c c' : Nat) (w : World) (h1 : ∀ i s, l[i]? = some s → w.cell? ⟨b, off + i, none⟩ = some (str s)) (h2 : ∀ i s, l[i]? = some s → w.cell? ⟨b', off' + i, none⟩ = some (str s)) :
    Calls Tryd.prog 7 #[.slice (some ⟨b, off, none⟩) l.length c, .slice (some ⟨b', off', none⟩) l.length c'] w fun e w' => e = .returned (.bool true) ∧ Ext w w' := by
  have M := Mem.start w
  have H1 := Lib.hid h1
  have H2 := Lib.hid h2
  clear h1 h2
  go_enter Tryd.func7, Tryd.ntmps7
  (try dsimp only); (repeat (first | (first | ((with_reducible refine wl_g ?_); first | go_big_want | go_skip | ((with_reducible refine wl_off (by kernel_rfl) ?_); (first | ((with_reducible refine fastK Tryd.prog rfl ?_); go_big_move) | (with_reducible refine fastN rfl ?_) | skip))) | ((with_reducible refine on_load ?_); (first | refine xl1 M ?_ | refine xlN M ?_); go_big_move) | ((with_reducible refine on_store ?_); (first | refine xs1 M ?_ | refine xsN M ?_); clear M; intro w' M; (try simp only [List.set_cons_zero, List.set_cons_succ] at M)) | ((with_reducible refine on_box ?_); refine xb M ?_; clear M; intro g w' M; go_big_move) | ((with_reducible refine on_alloc ?_); refine xa M ?_; clear M; intro g w' M; go_big_move)) | go_values | go_skip | go_guarded | go_step | go_upon))
  go_loopw [5] (fun x wr => ∃ k : Nat, k ≤ l.length ∧ x = fj (k : Int) ∧ Mem (· < w.heap.size) w [] wr) (fun x _ => l.length - (intOf x).toNat)
  · exact ⟨0, by omega, rfl, M⟩
  · clear M
    obtain ⟨k, hk, rfl, M⟩ := hrel
    rcases Nat.lt_or_ge k l.length with hlt | hge
    · have q1 : decide ((k : Int) < (l.length : Int)) = true := by simp; omega
      have hwk : IntKind.i64.wrap ((k : Int) + 1) = (k : Int) + 1 := IntWalk.i64_in _ (by omega)
      obtain ⟨s, hs⟩ : ∃ s, l[k]? = some s := ⟨_, List.getElem?_eq_getElem hlt⟩
      have C1 := Lib.hid (H1.out k s hs)
      have C2 := Lib.hid (H2.out k s hs)
      have g1 : (s != s) = false := by simp
      clear hs
      (try dsimp only); (repeat (first | (first | ((with_reducible refine on_region 6 ?_); refine wp_region_mem0 M (by kernel_rfl) (by kernel_rfl) ?_; clear M; intro w' M; (repeat (first | ((with_reducible refine st_load ?_); first | (first | (refine st_load1C _ _ rfl _ (M.far C1.out) (fun w => ⟨by first | (simp [go_sem]; done) | (simp [go_sem]; rfl), by first | (simp [go_sem]; done) | (simp [go_sem]; rfl)⟩) ?_; (first | ((with_reducible refine fastS Tryd.prog rfl ?_); go_big_move; (with_reducible show wpStill _ _ _ _ _ _)) | (with_reducible refine fastSN rfl ?_) | skip)) | (refine st_load1C _ _ rfl _ (M.far C2.out) (fun w => ⟨by first | (simp [go_sem]; done) | (simp [go_sem]; rfl), by first | (simp [go_sem]; done) | (simp [go_sem]; rfl)⟩) ?_; (first | ((with_reducible refine fastS Tryd.prog rfl ?_); go_big_move; (with_reducible show wpStill _ _ _ _ _ _)) | (with_reducible refine fastSN rfl ?_) | skip))) | (refine st_load1 M _ _ rfl (by (repeat (first | exact Pick.head | apply Pick.tail)); done) (fun w => ⟨by first | (simp [go_sem]; done) | (simp [go_sem]; rfl), by first | (simp [go_sem]; done) | (simp [go_sem]; rfl)⟩) _ (by rfl) ?_; (first | ((with_reducible refine fastS Tryd.prog rfl ?_); go_big_move; (with_reducible show wpStill _ _ _ _ _ _)) | (with_reducible refine fastSN rfl ?_) | skip)) | (refine st_loadN M _ rfl (by (repeat (first | exact Pick.head | apply Pick.tail)); done) (fun w => ⟨by first | (simp [go_sem]; done) | (simp [go_sem]; rfl), by first | (simp [go_sem]; done) | (simp [go_sem]; rfl)⟩) ?_; (first | ((with_reducible refine fastS Tryd.prog rfl ?_); go_big_move; (with_reducible show wpStill _ _ _ _ _ _)) | (with_reducible refine fastSN rfl ?_) | skip))) | ((with_reducible refine st_g ?_); first | ((with_reducible refine st_on2 (by kernel_rfl) (fun Q' hQ' => ?_) ?_); (focus (go_big_want; rename_i K hK; go_big_move; refine hK _ _ ?_; exact hQ' _))) | ((with_reducible refine st_off (by kernel_rfl) ?_); (first | ((with_reducible refine fastS Tryd.prog rfl ?_); go_big_move; (with_reducible show wpStill _ _ _ _ _ _)) | (with_reducible refine fastSN rfl ?_) | skip))) | ((with_reducible refine st_quiet2 rfl rfl (fun K hK => ?_)); (first | go_big_move | go_big_op); refine hK _ ?_; clear hK K) | still_step)); refine wpStill_nil ?_) | ((with_reducible refine wl_g ?_); first | go_big_want | go_skip | ((with_reducible refine wl_off (by kernel_rfl) ?_); (first | ((with_reducible refine fastK Tryd.prog rfl ?_); go_big_move) | (with_reducible refine fastN rfl ?_) | skip))) | ((with_reducible refine on_load ?_); (first | refine xl1 M ?_ | refine xlN M ?_); go_big_move) | ((with_reducible refine on_store ?_); (first | refine xs1 M ?_ | refine xsN M ?_); clear M; intro w' M; (try simp only [List.set_cons_zero, List.set_cons_succ] at M)) | ((with_reducible refine on_box ?_); refine xb M ?_; clear M; intro g w' M; go_big_move) | ((with_reducible refine on_alloc ?_); refine xa M ?_; clear M; intro g w' M; go_big_move)) | go_values | go_skip | go_guarded | go_step | go_upon))
      exact ⟨⟨k + 1, by omega, by go_num, M⟩, by simp [intOf]; omega⟩
    · have q1 : decide ((k : Int) < (l.length : Int)) = false := by simp; omega
      (try dsimp only); (repeat (first | (first | ((with_reducible refine wl_g ?_); first | go_big_want | go_skip | ((with_reducible refine wl_off (by kernel_rfl) ?_); (first | ((with_reducible refine fastK Tryd.prog rfl ?_); go_big_move) | (with_reducible refine fastN rfl ?_) | skip))) | ((with_reducible refine on_load ?_); (first | refine xl1 M ?_ | refine xlN M ?_); go_big_move) | ((with_reducible refine on_store ?_); (first | refine xs1 M ?_ | refine xsN M ?_); clear M; intro w' M; (try simp only [List.set_cons_zero, List.set_cons_succ] at M)) | ((with_reducible refine on_box ?_); refine xb M ?_; clear M; intro g w' M; go_big_move) | ((with_reducible refine on_alloc ?_); refine xa M ?_; clear M; intro g w' M; go_big_move)) | go_values | go_skip | go_guarded | go_step | go_upon))
      exact ret_m1 rfl (Out.tmp rfl) rfl ⟨rfl, M.ext_of⟩
set_option maxRecDepth 100000 in
set_option maxHeartbeats 800000 in
theorem sameT_none (A A' : Option Addr) (c c' : Nat) (w : World) : Calls Tryd.prog 7 #[.slice A 0 c, .slice A' 0 c'] w fun e w' => e = .returned (.bool true) ∧ Ext w w' := by
  have M := Mem.start w
  go_enter Tryd.func7, Tryd.ntmps7
  (try dsimp only); (repeat (first | (first | ((with_reducible refine wl_g ?_); first | go_big_want | go_skip | ((with_reducible refine wl_off (by kernel_rfl) ?_); (first | ((with_reducible refine fastK Tryd.prog rfl ?_); go_big_move) | (with_reducible refine fastN rfl ?_) | skip))) | ((with_reducible refine on_load ?_); (first | refine xl1 M ?_ | refine xlN M ?_); go_big_move) | ((with_reducible refine on_store ?_); (first | refine xs1 M ?_ | refine xsN M ?_); clear M; intro w' M; (try simp only [List.set_cons_zero, List.set_cons_succ] at M)) | ((with_reducible refine on_box ?_); refine xb M ?_; clear M; intro g w' M; go_big_move) | ((with_reducible refine on_alloc ?_); refine xa M ?_; clear M; intro g w' M; go_big_move)) | go_values | go_skip | go_guarded | go_step | go_upon))
  go_loopw [5] (fun x wr => x = fj 0 ∧ Mem (· < w.heap.size) w [] wr) (fun _ _ => 0)
  · exact ⟨rfl, M⟩
  · clear M
    obtain ⟨rfl, M⟩ := hrel
    (try dsimp only); (repeat (first | (first | ((with_reducible refine wl_g ?_); first | go_big_want | go_skip | ((with_reducible refine wl_off (by kernel_rfl) ?_); (first | ((with_reducible refine fastK Tryd.prog rfl ?_); go_big_move) | (with_reducible refine fastN rfl ?_) | skip))) | ((with_reducible refine on_load ?_); (first | refine xl1 M ?_ | refine xlN M ?_); go_big_move) | ((with_reducible refine on_store ?_); (first | refine xs1 M ?_ | refine xsN M ?_); clear M; intro w' M; (try simp only [List.set_cons_zero, List.set_cons_succ] at M)) | ((with_reducible refine on_box ?_); refine xb M ?_; clear M; intro g w' M; go_big_move) | ((with_reducible refine on_alloc ?_); refine xa M ?_; clear M; intro g w' M; go_big_move)) | go_values | go_skip | go_guarded | go_step | go_upon))
    exact ret_m1 rfl (Out.tmp rfl) rfl ⟨rfl, M.ext_of⟩
end Go.Proofs.YtmmaddmlfofgbaaDoor
/- What an edit makes of the tables that live (layer 10): two ways, and that they are one where each level is in order. No program in sight. -/
namespace Go.Proofs.YtmmaddmlfofgbaaDoor
set_option linter.unusedSimpArgs false
set_option linter.unusedVariables false
open Go.RowKit

def Live.set (v : Live) (k : Nat) (l : List Table) : Live := { v with tab := fun j => if j = k then l else v.tab j }
theorem Live.set_same (v : Live) (k : Nat) (l : List Table) : (v.set k l).tab k = l := by simp [Live.set]
theorem Live.set_other (v : Live) {k j : Nat} (l : List Table) (h : j ≠ k) : (v.set k l).tab j = v.tab j := by simp [Live.set, h]
/-- does u come ahead of t in t's level? -/
def ahead (t u : Table) : Bool := if t.level = 0 then decide (u.num < t.num) else ltB u.least t.least
def keyLt (k : Nat) (u t : Table) : Bool := if k = 0 then decide (u.num < t.num) else ltB u.least t.least
theorem ahead_key {t u : Table} {k : Nat} (h : t.level = k) : ahead t u = keyLt k u t := by
  unfold ahead keyLt
  by_cases hk : k = 0
  · rw [if_pos (by omega), if_pos hk]
  · rw [if_neg (by omega), if_neg hk]
def lvl (t : Table) : Nat := t.level.toNat
/-- the document's place, and the program's -/
def putRef (l : List Table) (t : Table) : List Table := l.takeWhile (ahead t) ++ t :: l.dropWhile (ahead t)
def putProg (l : List Table) (t : Table) : List Table := l.take (l.countP (ahead t)) ++ t :: l.drop (l.countP (ahead t))

/-- the order of texts: a ≤ b < c -/
theorem ltB_neg_trans : ∀ {a b c : List UInt8}, ltB b a = false → ltB b c = true → ltB a c = true
  | _, _, [], _, k => by simp [ltB, Op.bytesLess] at k
  | [], _, z :: c, _, _ => by simp [ltB, Op.bytesLess]
  | x :: a, [], z :: c, h, _ => by simp [ltB, Op.bytesLess] at h
  | x :: a, y :: b, z :: c, h, k => by
    have ih := @ltB_neg_trans a b c
    simp only [ltB, Op.bytesLess, Bool.or_eq_true, Bool.and_eq_true, decide_eq_true_eq, beq_iff_eq, Bool.or_eq_false_iff, decide_eq_false_iff_not, UInt8.lt_iff_toNat_lt, ← UInt8.toNat_inj] at h k ih ⊢
    obtain ⟨h1, h2⟩ := h
    rcases k with k | ⟨k1, k2⟩
    · left; omega
    · by_cases hxy : y.toNat = x.toNat
      · have h3 : Op.bytesLess b a = false := by
          rw [UInt8.toNat_inj] at hxy
          simpa [hxy] using h2
        exact .inr ⟨by omega, ih h3 k2⟩
      · left; omega
theorem ltB_asymm : ∀ {a b : List UInt8}, ltB a b = true → ltB b a = false
  | _, [], h => by simp [ltB, Op.bytesLess] at h
  | [], _ :: _, _ => by simp [ltB, Op.bytesLess]
  | x :: a, y :: b, h => by
    have ih := @ltB_asymm a b
    simp only [ltB, Op.bytesLess, Bool.or_eq_true, Bool.and_eq_true, decide_eq_true_eq, beq_iff_eq, Bool.or_eq_false_iff, decide_eq_false_iff_not, UInt8.lt_iff_toNat_lt, ← UInt8.toNat_inj] at h ih ⊢
    rcases h with h | ⟨h1, h2⟩
    · refine ⟨by omega, ?_⟩
      have : (y == x) = false := by simp only [beq_eq_false_iff_ne, ne_eq, ← UInt8.toNat_inj]; omega
      simp [this]
    · exact ⟨by omega, by simp [ih h2]⟩
theorem keyLt_neg_trans {k : Nat} {a b c : Table} (h : keyLt k b a = false) (h' : keyLt k b c = true) : keyLt k a c = true := by
  unfold keyLt at *
  by_cases hk : k = 0
  · simp [hk] at *; omega
  · simp only [if_neg hk] at *; exact ltB_neg_trans h h'
theorem keyLt_asymm {k : Nat} {a b : Table} (h : keyLt k a b = true) : keyLt k b a = false := by
  unfold keyLt at *
  by_cases hk : k = 0
  · simp [hk] at *; omega
  · simp only [if_neg hk] at *; exact ltB_asymm h
/-- a level in order -/
def Srt (k : Nat) (l : List Table) : Prop := l.Pairwise fun a b => keyLt k b a = false
theorem srt_put {α : Type} {R : α → α → Prop} {p : α → Bool} (hp : ∀ a b, R a b → p b = true → p a = true) : ∀ {l : List α}, l.Pairwise R → l.takeWhile p = l.take (l.countP p) ∧ l.dropWhile p = l.drop (l.countP p) ∧ ∀ x ∈ l.dropWhile p, p x = false
  | [], _ => by simp
  | a :: l, h => by
    obtain ⟨h1, h2⟩ := List.pairwise_cons.1 h
    obtain ⟨i1, i2, i3⟩ := srt_put hp h2
    cases ha : p a with
    | true => simp [List.takeWhile_cons, List.dropWhile_cons, List.countP_cons, ha, ← i1, ← i2]; simpa using i3
    | false =>
      have hall : ∀ x ∈ l, p x = false := fun x hx => by
        cases hx' : p x with
        | false => rfl
        | true => rw [hp a x (h1 x hx) hx'] at ha; cases ha
      have h0 : l.countP p = 0 := by rw [List.countP_eq_zero]; intro x hx; simp [hall x hx]
      simp [List.takeWhile_cons, List.dropWhile_cons, List.countP_cons, ha, h0]
      exact hall
theorem put_same {k : Nat} {l : List Table} {t : Table} (h : Srt k l) (ht : t.level = k) : putProg l t = putRef l t := by
  have h1 := srt_put (p := ahead t) (fun a b hab hb => by rw [ahead_key ht] at *; exact keyLt_neg_trans hab hb) h
  unfold putProg putRef
  rw [h1.1, h1.2.1]
theorem of_takeWhile {α : Type} {p : α → Bool} {x : α} : ∀ {l : List α}, x ∈ l.takeWhile p → p x = true
  | a :: l, h => by
    rw [List.takeWhile_cons] at h
    split at h
    · rcases List.mem_cons.1 h with rfl | h
      · assumption
      · exact of_takeWhile h
    · cases h
theorem put_srt {k : Nat} {l : List Table} {t : Table} (h : Srt k l) (ht : t.level = k) : Srt k (putRef l t) := by
  obtain ⟨_, _, h3⟩ := srt_put (p := ahead t) (fun a b hab hb => by rw [ahead_key ht] at *; exact keyLt_neg_trans hab hb) h
  have hl : l.takeWhile (ahead t) ++ l.dropWhile (ahead t) = l := List.takeWhile_append_dropWhile
  have h4 := h
  unfold Srt at h4
  rw [← hl, List.pairwise_append] at h4
  unfold Srt putRef
  rw [List.pairwise_append, List.pairwise_cons]
  refine ⟨h4.1, ⟨fun b hb => ?_, h4.2.1⟩, fun a ha b hb => ?_⟩
  · rw [← ahead_key ht]; exact h3 b hb
  · rcases List.mem_cons.1 hb with rfl | hb
    · have := of_takeWhile ha
      rw [ahead_key ht] at this
      exact keyLt_asymm this
    · exact h4.2.2 a ha b hb

/-- may a key lie in t and in one of a level? -/
def clash (t : Table) (l : List Table) : Bool := decide (0 < t.level) && l.any (overB t)
def addAll (put : List Table → Table → List Table) (next : Nat) : List Table → Live → Option Live
  | [], v => some v
  | t :: ts, v => if t.num ∈ numsOf v ∨ next ≤ t.num then none else if clash t (v.tab (lvl t)) = true then none else addAll put next ts (v.set (lvl t) (put (v.tab (lvl t)) t))
def dropsOk (had : List Nat) : List Nat → List Nat → Bool
  | _, [] => true
  | pre, n :: r => decide (n ∈ had) && !decide (n ∈ pre) && dropsOk had (pre ++ [n]) r
def keptOf (v : Live) (e : Edit) : Live := ⟨e.next, e.seq, e.log, fun k => (v.tab k).filter fun t => !decide (t.num ∈ e.drop)⟩
def applyWith (put : List Table → Table → List Table) (v : Live) (e : Edit) : Live × Int :=
  if e.may = false then (noLive, 1) else if e.next < v.next ∨ e.seq < v.seq ∨ e.log < v.log then (noLive, 3) else if dropsOk (numsOf v) [] e.drop = false then (noLive, 3) else
    match addAll put e.next e.add (keptOf v e) with
    | none => (noLive, 3)
    | some o => (o, 0)
def Live.Srt (v : Live) : Prop := ∀ k, Go.Proofs.YtmmaddmlfofgbaaDoor.Srt k (v.tab k)
theorem addAll_same {next : Nat} : ∀ (ts : List Table) (v : Live), (∀ t ∈ ts, 0 ≤ t.level) → v.Srt → addAll putProg next ts v = addAll putRef next ts v ∧ ∀ o, addAll putRef next ts v = some o → o.Srt
  | [], v, _, h => ⟨rfl, fun o ho => by cases ho; exact h⟩
  | t :: ts, v, hl, h => by
    have ht : t.level = (lvl t : Int) := by have := hl t (by simp); unfold lvl; omega
    have hs : (v.set (lvl t) (putRef (v.tab (lvl t)) t)).Srt := fun k => by
      by_cases hk : k = lvl t
      · subst hk; rw [Live.set_same]; exact put_srt (h _) ht
      · rw [Live.set_other _ _ hk]; exact h k
    obtain ⟨i1, i2⟩ := addAll_same ts _ (fun t ht => hl t (by simp [ht])) hs
    unfold addAll
    rw [put_same (h _) ht]
    split
    · exact ⟨rfl, fun o ho => by cases ho⟩
    · split
      · exact ⟨rfl, fun o ho => by cases ho⟩
      · exact ⟨i1, i2⟩
theorem noLive_srt : noLive.Srt := fun k => List.Pairwise.nil
theorem keptOf_srt {v : Live} (h : v.Srt) (e : Edit) : (keptOf v e).Srt := fun k => (h k).filter _
theorem may_levels {e : Edit} (h : e.may = true) : ∀ t ∈ e.add, 0 ≤ t.level ∧ t.level < 4 := by
  simp [Edit.may] at h
  intro t ht
  have := h.2.1 t ht
  simp [Table.may] at this
  omega
/-- the two ways are one -/
theorem apply_same {v : Live} (h : v.Srt) (e : Edit) : applyWith putProg v e = applyWith putRef v e ∧ (applyWith putRef v e).1.Srt := by
  unfold applyWith
  by_cases hm : e.may = false
  · rw [if_pos hm, if_pos hm]; exact ⟨rfl, noLive_srt⟩
  · rw [if_neg hm, if_neg hm]
    have hm' : e.may = true := by simpa using hm
    obtain ⟨i1, i2⟩ := addAll_same (next := e.next) e.add _ (fun t ht => (may_levels hm' t ht).1) (keptOf_srt h e)
    rw [i1]
    refine ⟨rfl, ?_⟩
    split
    · exact noLive_srt
    · split
      · exact noLive_srt
      · split
        · exact noLive_srt
        · rename_i o ho
          exact i2 o ho
end Go.Proofs.YtmmaddmlfofgbaaDoor
/- slices.Insert of one table into a level: the program's own walk. -/
namespace Go.Proofs.YtmmaddmlfofgbaaDoor
set_option linter.unusedSimpArgs false
set_option linter.unusedVariables false
open Go.RowKit

end Go.Proofs.YtmmaddmlfofgbaaDoor
/- slices.Insert of one table into a level, amid it. -/
namespace Go.Proofs.YtmmaddmlfofgbaaDoor
set_option linter.unusedSimpArgs false
set_option linter.unusedVariables false
open Go.RowKit

end Go.Proofs.YtmmaddmlfofgbaaDoor
/- Frames read from bytes (layer 2): what the program and the reference both compute. -/
namespace Go.Proofs.YtmmaddmlfofgbaaDoor
set_option linter.unusedSimpArgs false
set_option linter.unusedVariables false
open Go.RowKit

structure Frm where
  kind : UInt8
  load : List UInt8
deriving DecidableEq
/-- the frame with which bytes begin, how many bytes it takes, what is wrong -/
def takeFrame (s : List UInt8) : Frm × Nat × Nat :=
  if s.length < 5 then (⟨0, []⟩, 0, 2) else if s.getD 4 0 = 0 then (⟨0, []⟩, 0, 3) else if (takeText 262144 (s.drop 5)).2.2 ≠ 0 then (⟨0, []⟩, 0, (takeText 262144 (s.drop 5)).2.2) else
  if little (crc ((s.drop 4).take ((takeText 262144 (s.drop 5)).2.1 + 1))) ≠ s.take 4 then (⟨0, []⟩, 0, 3) else (⟨s.getD 4 0, (takeText 262144 (s.drop 5)).1⟩, (takeText 262144 (s.drop 5)).2.1 + 5, 0)

end Go.Proofs.YtmmaddmlfofgbaaDoor
/- Numbers, texts and frames written and read again (layers 1 and 2), as plain functions; and what is cut within one is refused. No program in sight. -/
namespace Go.Proofs.YtmmaddmlfofgbaaDoor
set_option linter.unusedSimpArgs false
set_option linter.unusedVariables false
open Go.RowKit

theorem hiByte_nat (n : Nat) : (hiByte n).toNat = n % 128 + 128 := by simp [hiByte]; omega
theorem loByte_nat {n : Nat} (h : n < 128) : (loByte n).toNat = n := by simp [loByte]; omega

theorem fits_lo {m i : Nat} (h : m * 128 ^ i < 18446744073709551616) (hm : 0 < m) : i ≤ 9 := by
  rcases Nat.lt_or_ge 9 i with h1 | h1
  · have h2 := Nat.pow_le_pow_right (n := 128) (by decide) (show 10 ≤ i by omega)
    have h3 : 128 ^ i ≤ m * 128 ^ i := Nat.le_mul_of_pos_left _ hm
    have : (128 : Nat) ^ 10 = 1180591620717411303424 := by decide
    omega
  · exact h1
theorem fits_nine {m : Nat} (h : m * 128 ^ 9 < 18446744073709551616) : m ≤ 1 := by
  have : (128 : Nat) ^ 9 = 9223372036854775808 := by decide
  omega
theorem fits_hi {m i : Nat} (h : m * 128 ^ i < 18446744073709551616) (hm : 128 ≤ m) : i < 9 := by
  have h1 := fits_lo h (by omega)
  rcases Nat.lt_or_ge i 9 with h2 | h2
  · exact h2
  · obtain rfl : i = 9 := by omega
    have := fits_nine h
    omega
theorem div_fits {m i : Nat} (h : m * 128 ^ i < 18446744073709551616) : m / 128 * 128 ^ (i + 1) < 18446744073709551616 := by
  have : m / 128 * 128 ^ (i + 1) ≤ m * 128 ^ i := by
    rw [Nat.pow_succ, Nat.mul_comm (128 ^ i) 128, ← Nat.mul_assoc]
    exact Nat.mul_le_mul_right _ (Nat.div_mul_le_self m 128)
  omega

theorem takeGo_put (rest : List UInt8) : ∀ (m i acc : Nat), m * 128 ^ i < 18446744073709551616 → (i = 0 ∨ 0 < m) → takeGo (putUint m ++ rest) i acc = (acc + m * 128 ^ i, i + (putUint m).length, 0) := by
  intro m
  induction m using Nat.strongRecOn with
  | ind m ih =>
    intro i acc h h0
    by_cases hm : m < 128
    · rw [putUint_lo hm, List.cons_append, takeGo, loByte_nat hm]
      rw [if_neg, if_pos hm]
      · simp
      · rintro (⟨rfl, h1⟩ | ⟨h1, h2⟩)
        · have := fits_nine h; omega
        · omega
    · have hi := fits_hi h (by omega)
      rw [putUint_hi hm, List.cons_append, takeGo, hiByte_nat]
      rw [if_neg (by omega), if_neg (by omega), ih (m / 128) (by omega) (i + 1) _ (div_fits h) (by omega)]
      have e : (m % 128 + 128) % 128 = m % 128 := by omega
      rw [e]
      have e2 : m % 128 * 128 ^ i + m / 128 * 128 ^ (i + 1) = m * 128 ^ i := by
        rw [Nat.pow_succ, Nat.mul_comm (128 ^ i) 128, ← Nat.mul_assoc, ← Nat.add_mul]
        congr 1
        omega
      rw [List.length_cons, Nat.add_assoc, e2, Nat.add_assoc, Nat.add_comm 1]
theorem takeUint_put {n : Nat} (h : n < M64) (rest : List UInt8) : takeUint (putUint n ++ rest) = (n, (putUint n).length, 0) := by
  have := takeGo_put rest n 0 0 (by unfold M64 at h; omega) (.inl rfl)
  unfold takeUint
  rw [this]
  simp
theorem takeGo_cut : ∀ (m i acc k : Nat), m * 128 ^ i < 18446744073709551616 → k < (putUint m).length → takeGo ((putUint m).take k) i acc = (0, 0, 2) := by
  intro m
  induction m using Nat.strongRecOn with
  | ind m ih =>
    intro i acc k h hk
    cases k with
    | zero => simp [takeGo]
    | succ k =>
      by_cases hm : m < 128
      · rw [putUint_lo hm] at hk; simp at hk
      · have hi := fits_hi h (by omega)
        rw [putUint_hi hm] at hk ⊢
        rw [List.take_succ_cons, takeGo, hiByte_nat, if_neg (by omega), if_neg (by omega)]
        exact ih (m / 128) (by omega) (i + 1) _ k (div_fits h) (by simpa using hk)
theorem takeUint_cut {n k : Nat} (h : n < M64) (hk : k < (putUint n).length) : takeUint ((putUint n).take k) = (0, 0, 2) := takeGo_cut n 0 0 k (by unfold M64 at h; omega) hk

theorem takeText_cut {l : List UInt8} {most k : Nat} (h2 : l.length < M64) (hk : k < (putText l).length) : (takeText most ((putText l).take k)).2.2 ≠ 0 := by
  unfold putText at *
  rw [List.length_append] at hk
  rcases Nat.lt_or_ge k (putUint l.length).length with h1 | h1
  · rw [List.take_append_of_le_length (Nat.le_of_lt h1)]
    unfold takeText
    rw [takeUint_cut h2 h1]
    simp
  · rw [List.take_append, List.take_of_length_le h1]
    have hu := takeUint_put h2 (l.take (k - (putUint l.length).length))
    unfold takeText
    rw [hu]
    dsimp only
    rw [if_neg (by simp)]
    split
    · simp
    · rw [if_pos (by simp; omega)]
      simp

theorem frameBytes_length (kind : UInt8) (l : List UInt8) : (frameBytes kind l).length = 5 + (putText l).length := by
  simp [frameBytes, frameRest, little_length]; omega
theorem frameBytes_drop5 (kind : UInt8) (l rest : List UInt8) : (frameBytes kind l ++ rest).drop 5 = putText l ++ rest := by
  have h : (little (crc (frameRest kind l))).length = 4 := little_length _
  unfold frameBytes
  rw [List.append_assoc, List.drop_append, h, List.drop_of_length_le (by rw [h]; omega)]
  simp [frameRest]
theorem takeFrame_cut {kind : UInt8} {l : List UInt8} {k : Nat} (hl : l.length ≤ 262144) (hk : k < (frameBytes kind l).length) : (takeFrame ((frameBytes kind l).take k)).2.2 ≠ 0 := by
  unfold takeFrame
  split
  · simp
  · rename_i h5
    split
    · simp
    · have hd : ((frameBytes kind l).take k).drop 5 = (putText l).take (k - 5) := by
        have := frameBytes_drop5 kind l []
        rw [List.append_nil, List.append_nil] at this
        rw [List.drop_take, this]
      rw [hd]
      rw [frameBytes_length] at hk
      have hk5 : 5 ≤ k := by
        have := h5
        rw [List.length_take] at this
        omega
      have hc := takeText_cut (most := 262144) (k := k - 5) (l := l) (by unfold M64; omega) (by omega)
      rw [if_pos hc]
      exact hc

end Go.Proofs.YtmmaddmlfofgbaaDoor
/- Where frames stand in bytes (layer 2), as a relation. No program's walk. -/
namespace Go.Proofs.YtmmaddmlfofgbaaDoor
set_option linter.unusedSimpArgs false
set_option linter.unusedVariables false
open Go.RowKit

theorem takeText_lens (mx : Nat) (l : List UInt8) : (takeText mx l).1.length ≤ mx ∧ (takeText mx l).2.1 ≤ l.length ∧ (takeText mx l).2.2 ≤ 3 := ⟨takeText_most, takeText_len mx l, takeText_err mx l⟩
theorem takeFrame_facts (s : List UInt8) : (takeFrame s).1.load.length ≤ 262144 ∧ (takeFrame s).2.1 ≤ s.length ∧ (takeFrame s).2.2 ≤ 3 ∧ ((takeFrame s).2.2 = 0 → 5 ≤ (takeFrame s).2.1) := by
  obtain ⟨h1, h2, h3⟩ := takeText_lens 262144 (s.drop 5)
  rw [List.length_drop] at h2
  unfold takeFrame
  split
  · simp
  · split
    · simp
    · split
      · simp; omega
      · split
        · simp
        · simp; omega

/-- from place `at` on stand just these frames, up to `fin` -/
inductive FrAt (s : List UInt8) : Nat → List (Nat × Frm) → Nat → Prop
  | stop (p : Nat) (h : (takeFrame (s.drop p)).2.2 ≠ 0) : FrAt s p [] p
  | step (p : Nat) (f : Frm) (n : Nat) (rest : List (Nat × Frm)) (fin : Nat) (h : takeFrame (s.drop p) = (f, n, 0)) (hr : FrAt s (p + n) rest fin) : FrAt s p ((p, f) :: rest) fin
theorem FrAt.le {s : List UInt8} {p fin : Nat} {l : List (Nat × Frm)} (h : FrAt s p l fin) (hp : p ≤ s.length) : fin ≤ s.length ∧ l.length * 5 + p ≤ fin ∧ ∀ x ∈ l, x.1 ≤ s.length ∧ x.2.load.length ≤ 262144 := by
  induction h with
  | stop p h => exact ⟨hp, by simp, by simp⟩
  | step p f n rest fin h hr ih =>
    obtain ⟨f1, f2, -, f4⟩ := takeFrame_facts (s.drop p)
    rw [h] at f1 f2 f4
    rw [List.length_drop] at f2
    have f4' : 5 ≤ n := f4 rfl
    dsimp only at f1 f2
    obtain ⟨i1, i2, i3⟩ := ih (by omega)
    refine ⟨i1, by simp; omega, fun x hx => ?_⟩
    rcases List.mem_cons.1 hx with rfl | hx
    · exact ⟨hp, f1⟩
    · exact i3 x hx

end Go.Proofs.YtmmaddmlfofgbaaDoor
/- How an argument's reading (the datum of the row) becomes a list in memory (Row). -/
namespace Go.Proofs.YtmmaddmlfofgbaaDoor
set_option linter.unusedSimpArgs false
set_option linter.unusedVariables false
open Go.RowKit

section
variable {H : Type}
theorem bulk_pos (d : DataW H) : 1 ≤ Rows.uptoBulk d := by
  cases d with
  | lit l => cases l <;> simp [Rows.uptoBulk]
  | _ => simp [Rows.uptoBulk]
theorem bulk_part {d : DataW H} {l : List (DataW H)} (h : d ∈ l) : Rows.uptoBulk d ≤ Rows.uptoBulkAll l := by
  induction l with
  | nil => cases h
  | cons x r ih =>
    simp only [Rows.uptoBulkAll]
    rcases List.mem_cons.1 h with rfl | h
    · omega
    · have := ih h; omega
theorem bulk_length (l : List (DataW H)) : l.length ≤ Rows.uptoBulkAll l := by
  induction l with
  | nil => simp [Rows.uptoBulkAll]
  | cons x r ih => have := bulk_pos x; simp only [Rows.uptoBulkAll, List.length_cons]; omega
theorem bulk_small {l : List (DataW H)} (h : Rows.uptoSmall H l = true) : Rows.uptoBulkAll l ≤ 1048576 := of_decide_eq_true h
end

section
variable {H : Type} {enc : TypeId × Value → H} {P : Program} {w : World} {base : Nat} {spare : Nat → Bool} {held : Bool}

theorem mapM_cells {w : World} {a : Addr} : ∀ (n k : Nat) (cs : List Value), (List.range' k n).mapM (fun i => w.cell? (a.add i)) = some cs → cs.length = n ∧ ∀ j u, cs[j]? = some u → w.cell? (a.add (k + j)) = some u
  | 0, k, cs, h => by
    simp at h
    subst h
    simp
  | n + 1, k, cs, h => by
    rw [List.range'_succ, List.mapM_cons] at h
    cases hc : w.cell? (a.add k) with
    | none => simp [hc] at h
    | some u =>
      cases hr : (List.range' (k + 1) n).mapM (fun i => w.cell? (a.add i)) with
      | none => simp [hc, hr] at h
      | some r =>
        simp [hc, hr] at h
        subst h
        obtain ⟨h1, h2⟩ := mapM_cells n (k + 1) r hr
        refine ⟨by simp [h1], fun j v hv => ?_⟩
        cases j with
        | zero => simp at hv; subst hv; exact hc
        | succ j =>
          have := h2 j v (by simpa using hv)
          rwa [show k + 1 + j = k + (j + 1) by omega] at this

theorem cells_spec {a : Addr} {n : Nat} {cs : List Value} (h : w.cells? base a n = some cs) : cs.length = n ∧ ∀ j u, cs[j]? = some u → w.cell? (a.add j) = some u := by
  unfold World.cells? at h
  split at h
  · rw [List.range_eq_range'] at h
    have := mapM_cells n 0 cs h
    simpa using this
  · cases h

theorem add_off (b off k : Nat) : (⟨b, off, none⟩ : Addr).add k = ⟨b, off + k, none⟩ := by unfold Addr.add; split <;> simp_all

theorem list_of {α : Type} {p : Nat → α → Prop} : ∀ n, (∀ i, i < n → ∃ x, p i x) → ∃ l : List α, l.length = n ∧ ∀ i x, l[i]? = some x → p i x
  | 0, _ => ⟨[], rfl, by simp⟩
  | n + 1, h => by
    obtain ⟨l, hl, hp⟩ := list_of n (fun i hi => h i (by omega))
    obtain ⟨x, hx⟩ := h n (by omega)
    refine ⟨l ++ [x], by simp [hl], fun i y hy => ?_⟩
    rw [List.getElem?_append] at hy
    split at hy
    · exact hp i y hy
    · have : i - l.length = 0 := by
        rcases Nat.eq_zero_or_pos (i - l.length) with h0 | h0
        · exact h0
        · rw [List.getElem?_eq_none (by simp; omega)] at hy; cases hy
      rw [this] at hy
      simp at hy
      obtain rfl : i = n := by omega
      exact hy ▸ hx

theorem flatMap_snd {α : Type} {sz : Nat} : ∀ (l : List (α × List Value)), (∀ x ∈ l, x.2.length = sz) → ∀ (k j : Nat), j < sz → (l.flatMap (·.2))[k * sz + j]? = (l[k]?).bind fun x => x.2[j]?
  | [], _, k, j, _ => by simp
  | x :: l, h, 0, j, hj => by
    simp only [List.flatMap_cons, Nat.zero_mul, Nat.zero_add]
    rw [List.getElem?_append_left (by rw [h x (by simp)]; exact hj)]
    simp
  | x :: l, h, k + 1, j, hj => by
    have hx := h x (by simp)
    simp only [List.flatMap_cons]
    rw [List.getElem?_append_right (by rw [hx, Nat.succ_mul]; omega), hx, show (k + 1) * sz + j - sz = k * sz + j by rw [Nat.succ_mul]; omega, flatMap_snd l (fun y hy => h y (by simp [hy])) k j hj]
    simp
theorem length_flatMap_snd {α : Type} {sz : Nat} : ∀ (l : List (α × List Value)), (∀ x ∈ l, x.2.length = sz) → (l.flatMap (·.2)).length = l.length * sz
  | [], _ => by simp
  | x :: l, h => by rw [List.flatMap_cons, List.length_append, h x (by simp), length_flatMap_snd l (fun y hy => h y (by simp [hy])), List.length_cons, Nat.succ_mul, Nat.add_comm]

/-- a slice of elements whose cells R tells -/
def RowR {α : Type} (R : α → List Value → Prop) (w : World) (lo hi sz : Nat) (A : Option Addr) (l : List α) : Prop :=
  ∃ prs : List (α × List Value), prs.map Prod.fst = l ∧ (∀ p ∈ prs, R p.1 p.2 ∧ p.2.length = sz) ∧ Row w lo hi sz A l.length (prs.flatMap (·.2))

/-- where the cells are told by a plain function -/
theorem RowR.plain {α : Type} {f : α → List Value} {w : World} {lo hi sz : Nat} {A : Option Addr} {l : List α} (h : RowR (fun y cs => cs = f y) w lo hi sz A l) : Row w lo hi sz A l.length (l.flatMap f) := by
  obtain ⟨prs, rfl, hp, hr⟩ := h
  have e : prs.flatMap (·.2) = (prs.map Prod.fst).flatMap f := by
    clear hr
    induction prs with
    | nil => rfl
    | cons p prs ih =>
      rw [List.flatMap_cons, List.map_cons, List.flatMap_cons, (hp p (by simp)).1, ih (fun q hq => hp q (by simp [hq]))]
  rwa [e] at hr

/-- a slice that came in: R says what an element's cells are, m how great it is -/
theorem read_slice {α : Type} (R : α → List Value → Prop) (m : α → Nat) {t e : TypeId} {sz : Nat} (ht : P.underlying t = some (.slice e)) (hsz : P.cellsOf e = sz) (hpos : 0 < sz)
    (helem : ∀ fuel cs x, DataW.trod enc P w base spare held fuel e cs = some x → ∃ y : α, R y cs ∧ m y ≤ Rows.uptoBulk x.1) {fuel : Nat} {cs : List Value} {x : DataW H × List MemPlace} (h : DataW.trod enc P w base spare held fuel t cs = some x) :
    ∃ (A : Option Addr) (c : Nat) (l : List α), cs = [.slice A l.length c] ∧ RowR R w base w.heap.size sz A l ∧ l.length ≤ c ∧ c ≤ maxLen ∧ l.length + 1 ≤ Rows.uptoBulk x.1 ∧ (∀ y ∈ l, m y ≤ Rows.uptoBulk x.1) := by
  rcases Deep.open_slice ht h with ⟨rfl, rfl⟩ | ⟨a, len, cap, mm, n, D, Pl, rfl, hb, hl, hm, hmm, rfl, hel⟩
  · exact ⟨none, 0, [], rfl, ⟨[], rfl, by simp, Row.nil_⟩, by simp, by simp, by simp [Rows.uptoBulk], by simp⟩
  · have hle : len ≤ mm := by rw [hmm]; split <;> omega
    obtain ⟨prs, hlen, hprs⟩ : ∃ prs : List (α × List Value), prs.length = len ∧ ∀ i p, prs[i]? = some p → (w.cells? base (a.add (i * sz)) sz = some p.2 ∧ R p.1 p.2 ∧ m p.1 ≤ Rows.uptoBulk (D i)) := list_of (p := fun i (p : α × List Value) => w.cells? base (a.add (i * sz)) sz = some p.2 ∧ R p.1 p.2 ∧ m p.1 ≤ Rows.uptoBulk (D i)) len (fun i hi => by
      obtain ⟨cs', h1, h2⟩ := hel i (by omega)
      obtain ⟨y, h3, h4⟩ := helem _ _ _ h2
      rw [hsz] at h1
      exact ⟨(y, cs'), h1, h3, h4⟩)
    have hszs : ∀ p ∈ prs, p.2.length = sz := fun p hp => by
      obtain ⟨i, hi⟩ := List.getElem?_of_mem hp
      exact (cells_spec (hprs i p hi).1).1
    have hmem : ∀ i, i < len → D i ∈ (List.range len).map D := fun i hi => List.mem_map.2 ⟨i, List.mem_range.2 hi, rfl⟩
    have hbk : Rows.uptoBulkAll ((List.range len).map D) + 1 ≤ Rows.uptoBulk (.slice ((List.range len).map D) ((List.range (mm - len)).map fun j => D (len + j))) := by simp only [Rows.uptoBulk]; omega
    have hl2 : (prs.map Prod.fst).length = len := by simp [hlen]
    refine ⟨some a, cap, prs.map Prod.fst, by rw [hl2], ⟨prs, rfl, fun p hp => ?_, ?_⟩, by omega, hm, ?_, fun y hy => ?_⟩
    · obtain ⟨i, hi⟩ := List.getElem?_of_mem hp
      exact ⟨(hprs i p hi).2.1, hszs p hp⟩
    · refine ⟨by rw [length_flatMap_snd prs hszs, hl2, hlen], fun hn => ?_⟩
      have h0 : ∀ i p, prs[i]? = some p → ∀ j u, p.2[j]? = some u → w.cell? ((a.add (i * sz)).add j) = some u := fun i p hi => (cells_spec (hprs i p hi).1).2
      obtain ⟨p0, hp0⟩ : ∃ p, prs[0]? = some p := ⟨prs[0]'(by omega), List.getElem?_eq_getElem _⟩
      have hz0 := hszs p0 (List.mem_of_getElem? hp0)
      obtain ⟨b, off, spot⟩ := a
      have hc0 := h0 0 p0 hp0 0 (p0.2[0]'(by omega)) (List.getElem?_eq_getElem _)
      have hspot : spot = none := by simpa [Addr.add] using World.cell?_spot hc0
      subst hspot
      refine ⟨b, off, rfl, hb, ?_, fun j u hu => ?_⟩
      · have := World.block_lt_of_cell? w _ hc0
        rw [add_off, add_off] at this
        exact this
      · have hj : j < prs.length * sz := by
          have := (List.getElem?_eq_some_iff.1 hu).1
          rwa [length_flatMap_snd prs hszs] at this
        have hdm : j = j / sz * sz + j % sz := by have := Nat.div_add_mod j sz; rw [Nat.mul_comm] at this; omega
        rw [hdm, flatMap_snd prs hszs _ _ (Nat.mod_lt _ hpos)] at hu
        cases hp : prs[j / sz]? with
        | none => simp [hp] at hu
        | some p =>
          have := h0 _ p hp (j % sz) u (by simpa [hp] using hu)
          rw [add_off, add_off] at this
          rwa [show off + j / sz * sz + j % sz = off + j by omega] at this
    · have := bulk_length ((List.range len).map D)
      rw [List.length_map, List.length_range] at this
      dsimp only
      omega
    · obtain ⟨p, hp, rfl⟩ := List.mem_map.1 hy
      obtain ⟨i, hi⟩ := List.getElem?_of_mem hp
      have h1 := (hprs i p hi).2.2
      have h2 := bulk_part (hmem i (by have := (List.getElem?_eq_some_iff.1 hi).1; omega))
      dsimp only
      omega
end

theorem list5 {α : Type} {l : List α} (h : l.length = 5) : ∃ a b c d e, l = [a, b, c, d, e] := by
  match l, h with
  | [a, b, c, d, e], _ => exact ⟨a, b, c, d, e, rfl⟩
theorem list6 {α : Type} {l : List α} (h : l.length = 6) : ∃ a b c d e f, l = [a, b, c, d, e, f] := by
  match l, h with
  | [a, b, c, d, e, f], _ => exact ⟨a, b, c, d, e, f, rfl⟩

theorem read_str {H : Type} {enc : TypeId × Value → H} {P : Program} {w : World} {base : Nat} {spare : Nat → Bool} {held : Bool} {t : TypeId} {fuel : Nat} {cs : List Value} {x : DataW H × List MemPlace} (ht : P.underlying t = some .string)
    (h : DataW.trod enc P w base spare held fuel t cs = some x) : ∃ l : List UInt8, cs = [str l] ∧ l.length + 1 ≤ Rows.uptoBulk x.1 := by
  obtain ⟨s, rfl, rfl, _⟩ := DataW.trod_string ht h
  exact ⟨s.data.toList, by rw [str_data], by simp [Rows.uptoBulk]⟩
theorem read_u64 {H : Type} {enc : TypeId × Value → H} {P : Program} {w : World} {base : Nat} {spare : Nat → Bool} {held : Bool} {t : TypeId} {fuel : Nat} {cs : List Value} {x : DataW H × List MemPlace} (ht : P.underlying t = some (.int .u64))
    (h : DataW.trod enc P w base spare held fuel t cs = some x) : ∃ n : Nat, cs = [.int .u64 n] ∧ n < M64 := by
  obtain ⟨n, rfl, rfl, hw⟩ := DataW.trod_int ht h
  have hx : 0 ≤ n ∧ n ≤ 18446744073709551615 := by simpa [Lit.wf, IntKind.min, IntKind.max, IntKind.signed, IntKind.bits] using hw
  obtain ⟨m, rfl⟩ := Int.eq_ofNat_of_zero_le hx.1
  exact ⟨m, rfl, by unfold M64; omega⟩
theorem read_i64 {H : Type} {enc : TypeId × Value → H} {P : Program} {w : World} {base : Nat} {spare : Nat → Bool} {held : Bool} {t : TypeId} {fuel : Nat} {cs : List Value} {x : DataW H × List MemPlace} (ht : P.underlying t = some (.int .i64))
    (h : DataW.trod enc P w base spare held fuel t cs = some x) : ∃ n : Int, cs = [.int .i64 n] ∧ -9223372036854775808 ≤ n ∧ n ≤ 9223372036854775807 := by
  obtain ⟨n, rfl, rfl, hw⟩ := DataW.trod_int ht h
  have hx : -9223372036854775808 ≤ n ∧ n ≤ 9223372036854775807 := by simpa [Lit.wf, IntKind.min, IntKind.max, IntKind.signed, IntKind.bits] using hw
  exact ⟨n, rfl, hx.1, hx.2⟩
theorem trod_struct5 {H : Type} {enc : TypeId × Value → H} {P : Program} {w : World} {base : Nat} {spare : Nat → Bool} {held : Bool} {t : TypeId} {f0 f1 f2 f3 f4 : Field} {fuel : Nat} {cs : List Value} {x : DataW H × List MemPlace} (ht : P.underlying t = some (.struct #[f0, f1, f2, f3, f4])) (h : DataW.trod enc P w base spare held fuel t cs = some x) :
    ∃ y0 y1 y2 y3 y4 n, x = (.agg [y0.1, y1.1, y2.1, y3.1, y4.1], y0.2 ++ (y1.2 ++ (y2.2 ++ (y3.2 ++ y4.2)))) ∧ cs.length = P.cellsOf t ∧ DataW.trod enc P w base spare held n f0.type ((cs.drop f0.offset).take (P.cellsOf f0.type)) = some y0 ∧ DataW.trod enc P w base spare held n f1.type ((cs.drop f1.offset).take (P.cellsOf f1.type)) = some y1 ∧ DataW.trod enc P w base spare held n f2.type ((cs.drop f2.offset).take (P.cellsOf f2.type)) = some y2 ∧ DataW.trod enc P w base spare held n f3.type ((cs.drop f3.offset).take (P.cellsOf f3.type)) = some y3 ∧ DataW.trod enc P w base spare held n f4.type ((cs.drop f4.offset).take (P.cellsOf f4.type)) = some y4 := by
  obtain ⟨xs, n, _, rfl, hl, hlen, hf⟩ := DataW.trod_struct ht h
  match xs, hlen with
  | [y0, y1, y2, y3, y4], _ => exact ⟨y0, y1, y2, y3, y4, n, by simp, hl, by simpa using hf 0 f0 rfl, by simpa using hf 1 f1 rfl, by simpa using hf 2 f2 rfl, by simpa using hf 3 f3 rfl, by simpa using hf 4 f4 rfl⟩
theorem trod_struct6 {H : Type} {enc : TypeId × Value → H} {P : Program} {w : World} {base : Nat} {spare : Nat → Bool} {held : Bool} {t : TypeId} {f0 f1 f2 f3 f4 f5 : Field} {fuel : Nat} {cs : List Value} {x : DataW H × List MemPlace} (ht : P.underlying t = some (.struct #[f0, f1, f2, f3, f4, f5])) (h : DataW.trod enc P w base spare held fuel t cs = some x) :
    ∃ y0 y1 y2 y3 y4 y5 n, x = (.agg [y0.1, y1.1, y2.1, y3.1, y4.1, y5.1], y0.2 ++ (y1.2 ++ (y2.2 ++ (y3.2 ++ (y4.2 ++ y5.2))))) ∧ cs.length = P.cellsOf t ∧ DataW.trod enc P w base spare held n f0.type ((cs.drop f0.offset).take (P.cellsOf f0.type)) = some y0 ∧ DataW.trod enc P w base spare held n f1.type ((cs.drop f1.offset).take (P.cellsOf f1.type)) = some y1 ∧ DataW.trod enc P w base spare held n f2.type ((cs.drop f2.offset).take (P.cellsOf f2.type)) = some y2 ∧ DataW.trod enc P w base spare held n f3.type ((cs.drop f3.offset).take (P.cellsOf f3.type)) = some y3 ∧ DataW.trod enc P w base spare held n f4.type ((cs.drop f4.offset).take (P.cellsOf f4.type)) = some y4 ∧ DataW.trod enc P w base spare held n f5.type ((cs.drop f5.offset).take (P.cellsOf f5.type)) = some y5 := by
  obtain ⟨xs, n, _, rfl, hl, hlen, hf⟩ := DataW.trod_struct ht h
  match xs, hlen with
  | [y0, y1, y2, y3, y4, y5], _ => exact ⟨y0, y1, y2, y3, y4, y5, n, by simp, hl, by simpa using hf 0 f0 rfl, by simpa using hf 1 f1 rfl, by simpa using hf 2 f2 rfl, by simpa using hf 3 f3 rfl, by simpa using hf 4 f4 rfl, by simpa using hf 5 f5 rfl⟩
end Go.Proofs.YtmmaddmlfofgbaaDoor
