/- Manifests (layer 10): may an edit be? -/
import Derived.Test.YteplpgknnlehnaaMan
namespace Go.Proofs.Yteplpgknnlehnaa
set_option linter.unusedSimpArgs false
set_option linter.unusedVariables false
open Go.RowKit

def u64C (n : Nat) : List Value := [.int .u64 (n : Int)]
theorem u64C_len (n : Nat) : (u64C n).length = 1 := rfl
def mayDrop (n : Nat) : Bool := !(decide ((n : Int) < 1) || decide (4611686018427387904 < (n : Int)))

/-- the predicate holds of all / not of the element k -/
theorem all_take_succ {α : Type} {p : α → Bool} {l : List α} {k : Nat} {x : α} (h : (l.take k).all p = true) (hx : l[k]? = some x) (hp : p x = true) : (l.take (k + 1)).all p = true := by
  rw [List.take_add_one, hx]
  simp at h ⊢
  exact ⟨h, hp⟩
theorem all_false {α : Type} {p : α → Bool} {l : List α} {k : Nat} {x : α} (hx : l[k]? = some x) (hp : p x = false) : l.all p = false := by
  rw [List.all_eq_false]
  exact ⟨x, List.mem_of_getElem? hx, by simp [hp]⟩
theorem all_take_all {α : Type} {p : α → Bool} {l : List α} {k : Nat} (h : (l.take k).all p = true) (hk : l.length ≤ k) : l.all p = true := by rwa [List.take_of_length_le hk] at h

set_option maxRecDepth 100000 in
set_option maxHeartbeats 800000 in
theorem may1_any (t : Table) (h : t.Ok) (w : World) :
    Calls Try.prog 77 #[.agg t.cells.toArray] w fun e w' => e = .returned (.bool (!t.may)) ∧ Ext w w' := by
  have hc := mayTable_any t h
  obtain ⟨n, lv, sz, ct, a, b⟩ := t
  dsimp only [Table.cells] at *
  have HC := Lib.hid hc
  clear hc h
  go_enter Try.func77, Try.ntmps77
  go_wp2_with (go_at_call 78; refine (HC.out _).mono ?_; rintro e w1 ⟨rfl, hb⟩)
  go_ret
  exact ⟨rfl, by (repeat (first | exact Below.refl _ _ | refine Ext.trans' ?_ (Ext.al _ _) | refine Ext.trans' ?_ (Ext.dr _) | refine Ext.trans' ?_ (by assumption)))⟩
set_option maxRecDepth 100000 in
set_option maxHeartbeats 800000 in
theorem may2_any (n : Nat) (h : n < M64) (w : World) :
    Calls Try.prog 80 #[.int .u64 n] w fun e w' => e = .returned (.bool (!mayDrop n)) ∧ Ext w w' := by
  unfold M64 at h
  have HM : Hid (∀ x : Bool, x = (decide ((n : Int) < 1) || decide (4611686018427387904 < (n : Int))) → x = !mayDrop n) := fun x hx => by rw [hx]; simp [mayDrop]
  go_enter Try.func80, Try.ntmps80
  go_wp2
  all_goals go_ret
  all_goals refine ⟨congrArg (fun b => Ending.returned (.bool b)) (HM.out _ ?_), by (repeat (first | exact Below.refl _ _ | refine Ext.trans' ?_ (Ext.al _ _) | refine Ext.trans' ?_ (Ext.dr _) | refine Ext.trans' ?_ (by assumption)))⟩
  all_goals (simp [*] <;> (intros; omega))

theorem any_tables (l : List Table) (hok : ∀ t ∈ l, t.Ok) {k : Nat} {t : Table} (h : l[k]? = some t) : t.Ok := hok t (List.mem_of_getElem? h)

set_option maxRecDepth 100000 in
set_option maxHeartbeats 800000 in
theorem indexTables_any (l : List Table) (hl : l.length ≤ 1099511627776) (hok : ∀ t ∈ l, t.Ok) (A : Option Addr) (c : Nat) (w : World) (hr : Row w 0 w.heap.size 6 A l.length (l.flatMap Table.cells)) :
    Calls Try.prog 90 #[.slice A l.length c, .func (.func 77) #[] #[]] w fun e w' => ∃ n : Int, e = .returned (.int .i64 n) ∧ decide (0 ≤ n) = !l.all Table.may ∧ -1 ≤ n ∧ n ≤ 1099511627776 ∧ Ext w w' := by
  go_enter Try.func90, Try.ntmps90
  go_wp2
  go_loopw [8] (fun i wr => ∃ k : Nat, k ≤ l.length ∧ i = .int .i64 k ∧ Hid ((l.take k).all Table.may = true) ∧ Ext w wr) (fun i _ => l.length - (intOf i).toNat)
  · exact ⟨0, by simp, rfl, by simp [Hid], Below.refl _ _⟩
  · obtain ⟨k, hk, rfl, hall, hE⟩ := hrel
    by_cases hlt : k < l.length
    · obtain ⟨t, ht⟩ : ∃ t, l[k]? = some t := ⟨l[k], List.getElem?_eq_getElem hlt⟩
      obtain ⟨b, off, rfl, -, hbw, hc⟩ := (hr.below hE (Nat.le_refl _)).elem Table.cells_len rfl ht
      have hc0 := hc 0 _ rfl
      have hc1 := hc 1 _ rfl
      have hc2 := hc 2 _ rfl
      have hc3 := hc 3 _ rfl
      have hc4 := hc 4 _ rfl
      have hc5 := hc 5 _ rfl
      rw [Nat.add_zero] at hc0
      have hm := may1_any t (hok t (List.mem_of_getElem? ht))
      have HT := Lib.hid ht
      have HMA := Lib.hid (fun h => all_take_succ (p := Table.may) hall.out ht h)
      have HMF := Lib.hid (fun h => all_false (p := Table.may) ht h)
      cases hmay : t.may
      all_goals
        rw [hmay] at hm
        simp only [Bool.not_true, Bool.not_false] at hm
        have HM := Lib.hid hm
        have HMY := Lib.hid hmay
        clear hm hc hr hok hmay ht
        obtain ⟨n, lv, sz, ct, a, bb⟩ := t
        dsimp only [Table.cells] at *
        go_wp2_with (refine (HM.out _).mono ?_; rintro e w1 ⟨rfl, hb⟩)
      · go_ret
        exact ⟨(k : Int), rfl, by rw [HMF.out HMY.out]; simp; try omega, by omega, by omega, hE.trans' hb⟩
      · exact ⟨⟨k + 1, by omega, by simp, HMA.out HMY.out, hE.trans' hb⟩, by simp [intOf]; omega⟩
    · go_wp2
      go_ret
      exact ⟨-1, rfl, by rw [all_take_all hall.out (by omega)]; rfl, by omega, by omega, hE⟩

set_option maxRecDepth 100000 in
set_option maxHeartbeats 800000 in
theorem indexDrops_any (l : List Nat) (hl : l.length ≤ 1099511627776) (hok : ∀ t ∈ l, t < M64) (A : Option Addr) (c : Nat) (w : World) (hr : Row w 0 w.heap.size 1 A l.length (l.flatMap u64C)) :
    Calls Try.prog 92 #[.slice A l.length c, .func (.func 80) #[] #[]] w fun e w' => ∃ n : Int, e = .returned (.int .i64 n) ∧ decide (0 ≤ n) = !l.all mayDrop ∧ -1 ≤ n ∧ n ≤ 1099511627776 ∧ Ext w w' := by
  go_enter Try.func92, Try.ntmps92
  go_wp2
  go_loopw [8] (fun i wr => ∃ k : Nat, k ≤ l.length ∧ i = .int .i64 k ∧ Hid ((l.take k).all mayDrop = true) ∧ Ext w wr) (fun i _ => l.length - (intOf i).toNat)
  · exact ⟨0, by simp, rfl, by simp [Hid], Below.refl _ _⟩
  · obtain ⟨k, hk, rfl, hall, hE⟩ := hrel
    by_cases hlt : k < l.length
    · obtain ⟨t, ht⟩ : ∃ t, l[k]? = some t := ⟨l[k], List.getElem?_eq_getElem hlt⟩
      obtain ⟨b, off, rfl, -, hbw, hc⟩ := (hr.below hE (Nat.le_refl _)).elem u64C_len rfl ht
      have hc0 := hc 0 _ rfl
      rw [Nat.add_zero, Nat.mul_one] at hc0
      have hm := may2_any t (hok t (List.mem_of_getElem? ht))
      have HT := Lib.hid ht
      have HMA := Lib.hid (fun h => all_take_succ (p := mayDrop) hall.out ht h)
      have HMF := Lib.hid (fun h => all_false (p := mayDrop) ht h)
      cases hmay : mayDrop t
      all_goals
        rw [hmay] at hm
        simp only [Bool.not_true, Bool.not_false] at hm
        have HM := Lib.hid hm
        have HMY := Lib.hid hmay
        clear hm hc hr hok hmay ht
        go_wp2_with (refine (HM.out _).mono ?_; rintro e w1 ⟨rfl, hb⟩)
      · go_ret
        exact ⟨(k : Int), rfl, by rw [HMF.out HMY.out]; simp; try omega, by omega, by omega, hE.trans' hb⟩
      · exact ⟨⟨k + 1, by omega, by simp, HMA.out HMY.out, hE.trans' hb⟩, by simp [intOf]; omega⟩
    · go_wp2
      go_ret
      exact ⟨-1, rfl, by rw [all_take_all hall.out (by omega)]; rfl, by omega, by omega, hE⟩

set_option maxRecDepth 100000 in
set_option maxHeartbeats 800000 in
theorem containsTables_any (l : List Table) (hl : l.length ≤ 1099511627776) (hok : ∀ t ∈ l, t.Ok) (A : Option Addr) (c : Nat) (w : World) (hr : Row w 0 w.heap.size 6 A l.length (l.flatMap Table.cells)) :
    Calls Try.prog 76 #[.slice A l.length c, .func (.func 77) #[] #[]] w fun e w' => e = .returned (.bool (!l.all Table.may)) ∧ Ext w w' := by
  have H := Lib.hid (indexTables_any l hl hok A c w hr)
  clear hr hok
  go_enter Try.func76, Try.ntmps76
  go_wp2_with (refine H.out.mono ?_; rintro e w1 ⟨n, rfl, hn, h1, h2, hb⟩)
  all_goals go_ret
  all_goals exact ⟨by rw [← hn]; rfl, hb⟩
set_option maxRecDepth 100000 in
set_option maxHeartbeats 800000 in
theorem containsDrops_any (l : List Nat) (hl : l.length ≤ 1099511627776) (hok : ∀ t ∈ l, t < M64) (A : Option Addr) (c : Nat) (w : World) (hr : Row w 0 w.heap.size 1 A l.length (l.flatMap u64C)) :
    Calls Try.prog 79 #[.slice A l.length c, .func (.func 80) #[] #[]] w fun e w' => e = .returned (.bool (!l.all mayDrop)) ∧ Ext w w' := by
  have H := Lib.hid (indexDrops_any l hl hok A c w hr)
  clear hr hok
  go_enter Try.func79, Try.ntmps79
  go_wp2_with (refine H.out.mono ?_; rintro e w1 ⟨n, rfl, hn, h1, h2, hb⟩)
  all_goals go_ret
  all_goals exact ⟨by rw [← hn]; rfl, hb⟩

structure Edit where
  next : Nat
  seq : Nat
  log : Nat
  add : List Table
  drop : List Nat
deriving DecidableEq
/-- an edit's value -/
def Edit.val (e : Edit) (A A' : Option Addr) (c c' : Nat) : Value := .agg #[.int .u64 e.next, .int .u64 e.seq, .int .u64 e.log, .slice A e.add.length c, .slice A' e.drop.length c']
/-- its numbers fit their words, its lengths a machine -/
structure Edit.Ok (e : Edit) : Prop where
  next : e.next < M64
  seq : e.seq < M64
  log : e.log < M64
  add : ∀ t ∈ e.add, t.Ok
  drop : ∀ n ∈ e.drop, n < M64
  addLen : e.add.length ≤ 1048576
  dropLen : e.drop.length ≤ 1048576
/-- where its rows lie -/
structure EditAt (w : World) (hi : Nat) (e : Edit) (A A' : Option Addr) : Prop where
  add : Row w 0 hi 6 A e.add.length (e.add.flatMap Table.cells)
  drop : Row w 0 hi 1 A' e.drop.length (e.drop.flatMap u64C)
theorem EditAt.ext {w w' : World} {e : Edit} {A A' : Option Addr} (h : EditAt w w.heap.size e A A') (hb : Ext w w') : EditAt w' w'.heap.size e A A' :=
  ⟨(h.add.below hb (Nat.le_refl _)).wide (Nat.le_refl _) hb.size, (h.drop.below hb (Nat.le_refl _)).wide (Nat.le_refl _) hb.size⟩

def Edit.may (e : Edit) : Bool :=
  !(decide (4611686018427387904 < (e.next : Int)) || decide (4611686018427387904 < (e.seq : Int)) || decide (4611686018427387904 < (e.log : Int)) || decide (1000 < (e.add.length : Int)) || decide (1000 < (e.drop.length : Int))) &&
    (e.add.all Table.may && e.drop.all mayDrop)

end Go.Proofs.Yteplpgknnlehnaa
