/- Parts of this work, one behind the other: Apl4, Live, Apl5, Same. -/
import Derived.BigFrame
import Derived.BigGuardPart
import Derived.Test.YtmmaddmlfofgbaaDoorPko5
import Derived.Test.YtmmaddmlfofgbaaDoorPko2
/- A table more in a level, in its order (layer 10): the document's walk where nothing is there yet; whatever is there. -/
namespace Go.Proofs.YtmmaddmlfofgbaaDoor
set_option linter.unusedSimpArgs false
set_option linter.unusedVariables false
open Go.RowKit

set_option maxRecDepth 100000 in
set_option maxHeartbeats 800000 in
theorem put_none (t : Table) (w : World) :
    Calls Tryd.prog 19 #[.slice none 0 0, .agg t.cells.toArray] w fun e w' => ∃ A' c', e = .returned (.slice A' 1 c') ∧ Own w' w.heap.size 42 Table.cells 6 A' c' [t] ∧ Ext w w' := by
  obtain ⟨n1, l1, s1, c1, a1, g1⟩ := t
  dsimp only [Table.cells] at *
  go_enter Tryd.func19, Tryd.ntmps19
  go_wp2_with fail
  obtain ⟨S, hS⟩ : ∃ S, w.heap.size = S := ⟨_, rfl⟩
  (obtain ⟨w0, hw0⟩ : ∃ w0, w0 = World.alloc w (.cells #[.int .u64 n1, .int .i64 l1, .int .i64 s1, .int .i64 c1, str a1, str g1] 42) := ⟨_, rfl⟩); (have hbox_w0 : Box w0 (w).heap.size 42 #[.int .u64 n1, .int .i64 l1, .int .i64 s1, .int .i64 c1, str a1, str g1] := by rw [hw0]; exact Box.new _ _ _); (have hE_w0 : Ext w w0 := by rw [hw0]; exact Ext.al _ _); (have hz_w0 : (w0).heap.size = (w).heap.size + 1 := by rw [hw0]; simp); rw [← hw0]; clear hw0
  rw [hS] at hbox_w0 hz_w0 ⊢
  go_loopw [5] (fun i wr => i = .int .i64 0 ∧ wr = w0) (fun i _ => 0)
  · exact ⟨rfl, rfl⟩
  · obtain ⟨rfl, rfl⟩ := hrel
    have d0 := hbox_w0.cell 0
    have d1 := hbox_w0.cell 1
    have d2 := hbox_w0.cell 2
    have d3 := hbox_w0.cell 3
    have d4 := hbox_w0.cell 4
    have d5 := hbox_w0.cell 5
    simp only [List.getElem?_toArray, List.getElem?_cons_zero, List.getElem?_cons_succ] at d0 d1 d2 d3 d4 d5
    go_wp2_with fail
    go_quiet (fail)
    have HBn : ∀ n, Box (wr.drewN n) S 42 #[.int .u64 n1, .int .i64 l1, .int .i64 s1, .int .i64 c1, str a1, str g1] := fun n => hbox_w0
    go_wp2_with (at_builtin; refine wpList_push_at Tryd.tablesOf rfl _ _ rfl (base := S) (⟨n1, l1, s1, c1, a1, g1⟩ : Table) rfl Own.nil_ rfl (by show Value.slice (some ⟨S + 1, 0, none⟩) 1 1 = _; rw [← hz_w0]; rfl) rfl (Table.cells_len _) (Table.one _) (by first | decide | simp) (by first | decide | simp) (by show S ≤ wr.heap.size; omega) ?_)
    rintro A2 c2' w2 ho2 hg2 -
    have hX2 : Ext w w2 := Below.grown (a := w) (w := (wr.drewN _).alloc _) (Ext.trans' (Below.trans hE_w0 (below_drewN' wr _)) (Ext.al _ _)) hg2 (by have := hE_w0.size; simp; omega) (fun g e => by cases e)
    have HX2 := Lib.hid hX2
    clear hg2 hX2 d0 d1 d2 d3 d4 d5 hbox_w0 hE_w0 hz_w0 HBn
    obtain ⟨i0, z0, hi0, _⟩ := (Tryd.tablesOf).info
    go_wp2_with (at_builtin; refine wpList_append_own_none rfl _ _ _ rfl S 42 i0 6 Tryd.underlying25 hi0 _ _ _ rfl ho2 rfl ?_)
    have ho3 := Lib.hid ho2
    clear ho2
    go_wp2
    go_ret
    exact ⟨_, _, rfl, by rw [hS]; exact ho3.out, HX2.out⟩
theorem put_any (l : List Table) (hl : l.length ≤ 1099511627776) (t : Table) (ht : 0 ≤ t.level) (A : Option Addr) (c base : Nat) (w : World) (hown : Own w base 42 Table.cells 6 A c l) :
    Calls Tryd.prog 19 #[.slice A l.length c, .agg t.cells.toArray] w fun e w' => ∃ A' c', e = .returned (.slice A' (l.length + 1) c') ∧ Own w' w.heap.size 42 Table.cells 6 A' c' (putRef l t) ∧ Ext w w' := by
  rcases Lies.of_own hown with ⟨rfl, rfl, rfl⟩ | ⟨b, off, rfl, hb, hc, hr⟩
  · exact put_none t w
  · refine (put_some l hl t ht b off c hc w hb hr).mono ?_
    rintro _ w' ⟨A', c', rfl, h⟩
    have hlen : (putRef l t).length = l.length + 1 := by
      have := congrArg List.length (List.takeWhile_append_dropWhile (p := ahead t) (l := l))
      simp only [List.length_append] at this
      simp [putRef]
      omega
    exact ⟨A', c', by rw [hlen], h⟩
end Go.Proofs.YtmmaddmlfofgbaaDoor
/- Where tables that live lie while they are gathered (layer 10). -/
namespace Go.Proofs.YtmmaddmlfofgbaaDoor
set_option linter.unusedSimpArgs false
set_option linter.unusedVariables false
open Go.RowKit

def Place.set (p : Place) (k : Nat) (A : Option Addr) (c : Nat) : Place := ⟨fun j => if j = k then A else p.A j, fun j => if j = k then c else p.c j⟩
/-- where the rows lie: from lo on -/
def LiveIn (w : World) (lo : Nat) (v : Live) (p : Place) : Prop := ∀ k, k < 4 → Row w lo w.heap.size 6 (p.A k) (v.tab k).length ((v.tab k).flatMap Table.cells)
theorem LiveIn.live {w : World} {lo : Nat} {v : Live} {p : Place} (h : LiveIn w lo v p) : LiveAt w v p := fun k hk => (h k hk).wide (Nat.zero_le _) (Nat.le_refl _)
structure LOwn (w : World) (base : Nat) (o : Live) (q : Place) : Prop where
  row : ∀ k, k < 4 → Own w base 42 Table.cells 6 (q.A k) (q.c k) (o.tab k)
  apart : ∀ i j, i < 4 → j < 4 → i ≠ j → ∀ g, ownBlk (q.A i) = some g → ownBlk (q.A j) ≠ some g
namespace LOwn
variable {w w' : World} {base : Nat} {o : Live} {q : Place}
theorem none_ (ht : ∀ k, k < 4 → o.tab k = []) : LOwn w base o noPlace :=
  ⟨fun k hk => by rw [ht k hk]; exact Own.nil_, fun _ _ _ _ _ g e => by cases e⟩
theorem congr {o' : Live} (h : LOwn w base o q) (ht : ∀ k, k < 4 → o'.tab k = o.tab k) : LOwn w base o' q :=
  ⟨fun k hk => by rw [ht k hk]; exact h.row k hk, h.apart⟩
theorem fr {S : Nat → Prop} (h : LOwn w base o q) (hf : Fr S w w') (hs : ∀ b, base ≤ b → b < w.heap.size → S b) : LOwn w' base o q :=
  ⟨fun k hk => (h.row k hk).fr hf hs, h.apart⟩
theorem ext (h : LOwn w base o q) (hb : Ext w w') : LOwn w' base o q := ⟨fun k hk => (h.row k hk).ext hb, h.apart⟩
theorem alloc (h : LOwn w base o q) (x : Obj) : LOwn (w.alloc x) base o q := ⟨fun k hk => (h.row k hk).alloc x, h.apart⟩
theorem setCell (h : LOwn w base o q) {p : Addr} (hp : p.block < base) (u : Value) : LOwn (w.setCell p u) base o q :=
  ⟨fun k hk => (h.row k hk).setCell (fun e => by have := ((h.row k hk).blk _ e).1; omega) u, h.apart⟩
theorem put {k : Nat} (hk : k < 4) (h : LOwn w base o q) (hg : w.grownBy w' (ownBlk (q.A k))) {A' : Option Addr} {c' : Nat} {l' : List Table} (ho : Own w' base 42 Table.cells 6 A' c' l')
    (hat : ∀ g, ownBlk A' = some g → ownBlk (q.A k) = some g ∨ w.heap.size ≤ g) : LOwn w' base (o.set k l') (q.set k A' c') := by
  refine ⟨fun j hj => ?_, fun i j hi hj hne g e => ?_⟩
  · by_cases hjk : j = k
    · subst hjk
      simp only [Live.set, Place.set, if_true]
      exact ho
    · simp only [Live.set, Place.set, if_neg hjk]
      exact (h.row j hj).grown hg (fun g e e' => h.apart j k hj hk hjk g e' e)
  · simp only [Place.set] at e ⊢
    by_cases hik : i = k
    · rw [if_pos hik] at e
      have hjk : j ≠ k := fun e' => hne (by rw [hik, e'])
      rw [if_neg hjk]
      rcases hat g e with h1 | h1
      · exact h.apart k j hk hj (fun e' => hjk e'.symm) g h1
      · intro e'
        have := ((h.row j hj).blk g e').2
        omega
    · rw [if_neg hik] at e
      by_cases hjk : j = k
      · rw [if_pos hjk]
        intro e'
        rcases hat g e' with h1 | h1
        · exact h.apart k i hk hi (fun e'' => hik e''.symm) g h1 e
        · have := ((h.row i hi).blk g e).2
          omega
      · rw [if_neg hjk]
        exact h.apart i j hi hj hne g e
theorem at_ (h : LOwn w base o q) {lo : Nat} (hlo : lo ≤ base) : LiveIn w lo o q := fun k hk => (h.row k hk).row.wide hlo (Nat.le_refl _)
end LOwn
theorem Live.cells_set (o : Live) (q : Place) {k : Nat} (hk : k < 4) (l : List Table) (A : Option Addr) (c : Nat) : (o.set k l).cells (q.set k A c) = (o.cells q).setIfInBounds (3 + k) (.slice A l.length c) := by
  match k, hk with
  | 0, _ => simp [Live.cells, Live.set, Place.set]
  | 1, _ => simp [Live.cells, Live.set, Place.set]
  | 2, _ => simp [Live.cells, Live.set, Place.set]
  | 3, _ => simp [Live.cells, Live.set, Place.set]
theorem Live.cells_congr {o o' : Live} (q : Place) (h1 : o.next = o'.next) (h2 : o.seq = o'.seq) (h3 : o.log = o'.log) (ht : ∀ k, k < 4 → o.tab k = o'.tab k) : o.cells q = o'.cells q := by
  simp [Live.cells, h1, h2, h3, ht]
set_option maxRecDepth 100000 in
theorem Live.index (o : Live) (q : Place) (w : World) {k : Nat} (hk : k < 4) : (Instr.index 26 (.agg #[.slice (q.A 0) (o.tab 0).length (q.c 0), .slice (q.A 1) (o.tab 1).length (q.c 1), .slice (q.A 2) (o.tab 2).length (q.c 2), .slice (q.A 3) (o.tab 3).length (q.c 3)]) (.int .i64 k)).run Tryd.prog w = .ok (.slice (q.A k) (o.tab k).length (q.c k)) w := by
  match k, hk with
  | 0, _ => rfl
  | 1, _ => rfl
  | 2, _ => rfl
  | 3, _ => rfl

/-- what a call answers with tables that live, and a number -/
def livVal (v : Live) (p : Place) (n : Int) : Value := .tuple #[.agg (v.cells p), .int .i64 n]
def LivePost (r : Live × Int) (w : World) (e : Ending) (w' : World) : Prop := ∃ p, e = .returned (livVal r.1 p r.2) ∧ LiveIn w' w.heap.size r.1 p ∧ Ext w w'
theorem LivePost.mk {v : Live} {n : Int} {w w' : World} {p : Place} (h : LiveIn w' w.heap.size v p) (hX : Ext w w') : LivePost (v, n) w (.returned (livVal v p n)) w' := ⟨p, rfl, h, hX⟩
theorem LiveAt.none_ (w : World) {lo : Nat} : LiveIn w lo noLive noPlace := fun k _ => ⟨rfl, fun h => absurd h (by simp [noLive])⟩
theorem live_ret {fn : Func} {R : Ending → World → Prop} {a : Act} {W : World} {S : Nat} {v : Live} {p : Place} {n : Int} (hres : fn.results = #[.cell 4 28, .tmp 5]) (h4 : a.tmps.getD 4 undef = .pointer (some ⟨S, 0, none⟩)) (h5 : a.tmps.getD 5 undef = .int .i64 n)
    (hd : a.defers = []) (bZ : Box W S 28 (v.cells p)) (h : R (.returned (livVal v p n)) W) : bodyPost Tryd.prog fn R .ret a W := by
  have z0 := bZ.cell 0
  have z1 := bZ.cell 1
  have z2 := bZ.cell 2
  have z3 := bZ.cell 3
  have z4 := bZ.cell 4
  have z5 := bZ.cell 5
  have z6 := bZ.cell 6
  unfold livVal at h
  unfold Live.cells at z0 z1 z2 z3 z4 z5 z6 h
  simp only [List.getElem?_toArray, List.getElem?_cons_zero, List.getElem?_cons_succ] at z0 z1 z2 z3 z4 z5 z6
  have h4' : a.tmps[4]?.getD undef = .pointer (some ⟨S, 0, none⟩) := by simpa using h4
  have h5' : a.tmps[5]?.getD undef = .int .i64 n := by simpa using h5
  refine bodyPost_ret ?_ hd h
  simp [results, hres, h4', h5', go_sem, z0, z1, z2, z3, z4, z5, z6]
/-- seven stores into the result -/
theorem Box.put7 {w : World} {g : Nat} {t : TypeId} {u0 u1 u2 u3 u4 u5 u6 : Value} (h : Box w g t #[u0, u1, u2, u3, u4, u5, u6]) (v0 v1 v2 v3 v4 v5 v6 : Value) :
    Box (((((((w.setCell ⟨g, 0, none⟩ v0).setCell ⟨g, 1, none⟩ v1).setCell ⟨g, 2, none⟩ v2).setCell ⟨g, 3, none⟩ v3).setCell ⟨g, 4, none⟩ v4).setCell ⟨g, 5, none⟩ v5).setCell ⟨g, 6, none⟩ v6) g t #[v0, v1, v2, v3, v4, v5, v6] := by
  have := ((((((h.put 0 v0).put 1 v1).put 2 v2).put 3 v3).put 4 v4).put 5 v5).put 6 v6
  simpa only [List.setIfInBounds_toArray, List.set_cons_zero, List.set_cons_succ] using this
theorem Below.put7 {B : Nat} {w w' : World} (h : Below B w w') {g : Nat} (hg : B ≤ g) (v0 v1 v2 v3 v4 v5 v6 : Value) :
    Below B w (((((((w'.setCell ⟨g, 0, none⟩ v0).setCell ⟨g, 1, none⟩ v1).setCell ⟨g, 2, none⟩ v2).setCell ⟨g, 3, none⟩ v3).setCell ⟨g, 4, none⟩ v4).setCell ⟨g, 5, none⟩ v5).setCell ⟨g, 6, none⟩ v6) :=
  ((((((h.setCell (p := ⟨g, 0, none⟩) hg v0).setCell (p := ⟨g, 1, none⟩) hg v1).setCell (p := ⟨g, 2, none⟩) hg v2).setCell (p := ⟨g, 3, none⟩) hg v3).setCell (p := ⟨g, 4, none⟩) hg v4).setCell (p := ⟨g, 5, none⟩) hg v5).setCell (p := ⟨g, 6, none⟩) hg v6
theorem LOwn.put7 {w : World} {base : Nat} {o : Live} {q : Place} (h : LOwn w base o q) {g : Nat} (hg : g < base) (v0 v1 v2 v3 v4 v5 v6 : Value) :
    LOwn (((((((w.setCell ⟨g, 0, none⟩ v0).setCell ⟨g, 1, none⟩ v1).setCell ⟨g, 2, none⟩ v2).setCell ⟨g, 3, none⟩ v3).setCell ⟨g, 4, none⟩ v4).setCell ⟨g, 5, none⟩ v5).setCell ⟨g, 6, none⟩ v6) base o q :=
  ((((((h.setCell (p := ⟨g, 0, none⟩) hg v0).setCell (p := ⟨g, 1, none⟩) hg v1).setCell (p := ⟨g, 2, none⟩) hg v2).setCell (p := ⟨g, 3, none⟩) hg v3).setCell (p := ⟨g, 4, none⟩) hg v4).setCell (p := ⟨g, 5, none⟩) hg v5).setCell (p := ⟨g, 6, none⟩) hg v6

/-- the numbers of what lives -/
theorem mem_numsTo {v : Live} {x : Nat} : ∀ {k : Nat}, x ∈ numsTo v k ↔ ∃ i, i < k ∧ ∃ t, t ∈ v.tab i ∧ t.num = x
  | 0 => by simp [numsTo]
  | k + 1 => by
    rw [numsTo_succ, List.mem_append, mem_numsTo (k := k)]
    constructor
    · rintro (⟨i, hi, h⟩ | h)
      · exact ⟨i, by omega, h⟩
      · obtain ⟨t, ht, e⟩ := List.mem_map.1 h
        exact ⟨k, by omega, t, ht, e⟩
    · rintro ⟨i, hi, t, ht, e⟩
      rcases Nat.lt_or_ge i k with h | h
      · exact .inl ⟨i, h, t, ht, e⟩
      · obtain rfl : i = k := by omega
        exact .inr (List.mem_map.2 ⟨t, ht, e⟩)
theorem mem_numsOf {v : Live} {x : Nat} : x ∈ numsOf v ↔ ∃ i, i < 4 ∧ ∃ t, t ∈ v.tab i ∧ t.num = x := mem_numsTo
/-- what is gathered of the tables that stay, up to level k's first j -/
def keep (e : Edit) (l : List Table) : List Table := l.filter fun t => !decide (t.num ∈ e.drop)
def partOf (v : Live) (e : Edit) (k j : Nat) : Live := ⟨e.next, e.seq, e.log, fun i => if i < k then keep e (v.tab i) else if i = k then keep e ((v.tab k).take j) else []⟩
theorem partOf_all {v : Live} {e : Edit} {k j : Nat} (hj : (v.tab k).length ≤ j) : partOf v e k j = partOf v e (k + 1) 0 := by
  unfold partOf
  congr 1
  funext i
  by_cases h1 : i < k
  · rw [if_pos h1, if_pos (by omega)]
  · by_cases h2 : i = k
    · subst h2
      rw [if_neg h1, if_pos rfl, if_pos (by omega), List.take_of_length_le hj]
    · rw [if_neg h1, if_neg h2, if_neg (by omega)]
      split
      · simp [keep]
      · rfl
theorem partOf_kept (v : Live) (e : Edit) : ∀ k, k < 4 → (partOf v e 4 0).tab k = (keptOf v e).tab k := fun k hk => by simp [partOf, keptOf, keep, hk]
theorem partOf_zero (v : Live) (e : Edit) : ∀ k, k < 4 → (partOf v e 0 0).tab k = [] := fun k hk => by
  by_cases h : k = 0 <;> simp [partOf, keep, h]
theorem partOf_stays {v : Live} {e : Edit} {k j : Nat} {t : Table} (ht : (v.tab k)[j]? = some t) (hd : t.num ∉ e.drop) : partOf v e k (j + 1) = (partOf v e k j).set k ((partOf v e k j).tab k ++ [t]) := by
  unfold partOf Live.set
  simp only [Live.mk.injEq, true_and]
  funext i
  by_cases h1 : i < k
  · rw [if_pos h1, if_neg (by omega), if_pos h1]
  · by_cases h2 : i = k
    · subst h2
      simp [keep, List.take_add_one, ht, List.filter_cons, hd]
    · rw [if_neg h1, if_neg h2, if_neg h2, if_neg h1, if_neg h2]
theorem partOf_goes {v : Live} {e : Edit} {k j : Nat} {t : Table} (ht : (v.tab k)[j]? = some t) (hd : t.num ∈ e.drop) : partOf v e k (j + 1) = partOf v e k j := by
  unfold partOf
  congr 1
  funext i
  by_cases h1 : i < k
  · rw [if_pos h1, if_pos h1]
  · by_cases h2 : i = k
    · subst h2
      simp [keep, List.take_add_one, ht, List.filter_cons, hd]
    · rw [if_neg h1, if_neg h2, if_neg h1, if_neg h2]
theorem partOf_len {v : Live} {e : Edit} {k j : Nat} (hj : j ≤ (v.tab k).length) : ((partOf v e k j).tab k).length ≤ j := by
  simp only [partOf, Nat.lt_irrefl, if_false, if_true]
  exact Nat.le_trans (List.length_filter_le _ _) (by rw [List.length_take]; omega)
/-- drops, one by one -/
theorem dropsOk_step {had pre r : List Nat} {n : Nat} (h1 : n ∈ had) (h2 : n ∉ pre) : dropsOk had pre (n :: r) = dropsOk had (pre ++ [n]) r := by simp [dropsOk, h1, h2]
theorem dropsOk_bad {had pre r : List Nat} {n : Nat} (h : ¬ (n ∈ had ∧ n ∉ pre)) : dropsOk had pre (n :: r) = false := by
  by_cases h1 : n ∈ had
  · have h2 : n ∈ pre := Classical.byContradiction fun h2 => h ⟨h1, h2⟩
    simp [dropsOk, h2]
  · simp [dropsOk, h1]
theorem wp_append_own_at {P : Program} {w : World} {o : Oper} {a : Act} {K : Act → World → Prop} {Q : Exit → Act → World → Prop} (s x : Operand) (t : TypeId)
    (ho : o.op = .call { callee := .builtin .append, args := #[s, x], argTypes := #[t, t] })
    (base : Nat) (e : TypeId) (i : TypeInfo) (z : Value) (size bytes : Nat) (ht : P.underlying t = some (.slice e)) (hi : P.info? e = some i) (hz : i.zero = some z)
    (hsize : i.size = size) (hby : i.bytes = bytes) (hzs : z.cells.size = size) (hsz : 0 < size)
    (v : Value) (n : Nat) (xs : List Value) (hs : a.eval s = v) (hown : w.ownsRow base e size v n xs)
    (ad : Addr) (m c : Nat) (news : List Value) (hx : a.eval x = .slice (some ad) m c) (hl : news.length = m * size) (hnews : ∀ j u, news[j]? = some u → w.cell? (ad.add j) = some u) (h1 : ∀ u ∈ news, u.oneCell' = true)
    (h63 : n + m ≤ maxLen) (hbytes : (n + m) * bytes ≤ 140737488355328) (hbase : base ≤ w.heap.size)
    (h : ∀ v' w', w'.ownsRow base e size v' (n + m) (xs ++ news) → w.grownBy w' v.ownBlock → (v'.ownBlock = v.ownBlock ∨ v'.ownBlock = some w.heap.size) → K (a.put o.dst v') w') : o.wp P a w K Q := by
  obtain ⟨v', w', hr, h2, h3, h4, h5⟩ := run_append_own_at (P := P) w base t o.type e i z size bytes ht hi hz hsize hby hzs hsz v n xs hown ad m c news hl hnews h1 h63 hbytes hbase
  unfold Oper.wp execOp
  simp only [ho, resolve, invoke, builtin, Sem.run_bind, Sem.run_pure, Result.andThen_ok, List.map_toArray, List.map_cons, List.map_nil, hs, hx, hr]
  exact h v' w' h2 h3 h5
/-- `v = append(v, x)` at a step of a region whose order is open, and where the row lies then -/
theorem wp_push_at {P : Program} {o : Oper} {a : Act} {K : Act → World → Prop} {Q : Exit → Act → World → Prop} {w : World} {t e : TypeId} {sz bytes : Nat} (E : ElemOf P t e sz bytes) (s x : Operand)
    (ho : o.op = .call { callee := .builtin .append, args := #[s, x], argTypes := #[t, t] })
    {α : Type} {f : α → List Value} {base : Nat} {A : Option Addr} {c n : Nat} {l : List α} (y : α) (hn : n = l.length) (hown : Own w base e f sz A c l) (hs : a.eval s = .slice A n c)
    (hx : a.eval x = .slice (some ⟨w.heap.size, 0, none⟩) 1 1) {cs : List Value} (hcs : cs = f y) (hl : (f y).length = sz) (h1 : ∀ u ∈ f y, u.oneCell' = true)
    (hsmall : (l.length + 1) * bytes ≤ 140737488355328) (hlen : l.length + 1 ≤ 140737488355328) (hbase : base ≤ w.heap.size)
    (h : ∀ A' c' w', Own w' base e f sz A' c' (l ++ [y]) → (w.alloc (.cells cs.toArray e)).grownBy w' (ownBlk A) → (∀ g, ownBlk A' = some g → ownBlk A = some g ∨ w.heap.size ≤ g) → K (a.put o.dst (.slice A' (l.length + 1) c')) w') :
    o.wp P a (w.alloc (.cells cs.toArray e)) K Q := by
  subst hn
  subst hcs
  obtain ⟨i, z, hi, hz, hsz, hby, hzs⟩ := E.info
  refine wp_append_own_at s x t ho base e i z sz bytes E.under hi hz hsz hby hzs E.pos (.slice A l.length c) l.length (l.flatMap f) hs (World.ownsRow.alloc hown _)
    ⟨w.heap.size, 0, none⟩ 1 1 (f y) hx (by rw [hl, Nat.one_mul]) (cells_new w (f y) e) h1 (by unfold maxLen; omega) hsmall (by simp; omega) ?_
  intro v' w' hown' hg hat
  obtain ⟨A', c', rfl⟩ := own_form hown'
  have hb : ∀ A : Option Addr, ∀ n c, Value.ownBlock (.slice A n c) = ownBlk A := fun A n c => by cases A <;> rfl
  refine h A' c' w' ?_ ?_ ?_
  · unfold Own
    rw [flatMap_snoc, show (l ++ [y]).length = l.length + 1 by simp]
    exact hown'
  · rw [← hb A l.length c]; exact hg
  · intro g e
    rw [hb, hb] at hat
    rcases hat with h1 | h1
    · exact .inl (by rw [← h1]; exact e)
    · rw [h1] at e
      cases e
      exact .inr (by simp)
theorem clash_step {t u : Table} {l : List Table} {j : Nat} (hu : l[j]? = some u) (h : clash t (l.take j) = false) (h' : (decide (0 < t.level) && overB t u) = false) : clash t (l.take (j + 1)) = false := by
  rw [List.take_add_one, hu]
  unfold clash at *
  cases hd : decide (0 < t.level) with
  | false => simp
  | true =>
    rw [hd] at h h'
    simp only [Bool.true_and] at h h' ⊢
    rw [List.any_append, h]
    simp [h']
theorem clash_of {t u : Table} {l : List Table} (hu : u ∈ l) (h : 0 < t.level) (h' : overB t u = true) : clash t l = true := by
  unfold clash
  rw [decide_eq_true h, Bool.true_and, List.any_eq_true]
  exact ⟨u, hu, h'⟩
end Go.Proofs.YtmmaddmlfofgbaaDoor
/- What an edit makes of the tables that live (layer 10): the program's walk. -/
namespace Go.Proofs.YtmmaddmlfofgbaaDoor
set_option linter.unusedSimpArgs false
set_option linter.unusedVariables false
open Go.RowKit

end Go.Proofs.YtmmaddmlfofgbaaDoor
/- Tables that live are compared with themselves (layer 10). -/
namespace Go.Proofs.YtmmaddmlfofgbaaDoor
set_option linter.unusedSimpArgs false
set_option linter.unusedVariables false
open Go.RowKit

end Go.Proofs.YtmmaddmlfofgbaaDoor
