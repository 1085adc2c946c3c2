/- Manifests read whole (layer 10): the program's walk. -/
import Derived.Test.YteplpgknnlehnaaAll
import Derived.Test.YteplpgknnlehnaaTurn
import Derived.Test.YteplpgknnlehnaaManRep2
import Derived.Test.YteplpgknnlehnaaRegionIn
import Derived.Test.YteplpgknnlehnaaApl5
import Derived.WalkMore
namespace Go.Proofs.Yteplpgknnlehnaa
set_option linter.unusedSimpArgs false
set_option linter.unusedVariables false
open Go.RowKit Go.Shelf

attribute [local go_sem] Oper.semAt_some

theorem LiveIn.turn {w w' : World} {row : Option Nat} {lo : Nat} {v : Live} {p : Place} (h : LiveIn w lo v p) (hg : w.grownBy w' row) (hr : ∀ r, row = some r → ∃ o : Obj, w.heap[r]? = some o ∧ o.isCells = false) : LiveIn w' lo v p :=
  fun j hj => ((h j hj).turn hg hr).wide (Nat.le_refl _) hg.size
abbrev zeroLive : Array Value := #[.int .u64 0, .int .u64 0, .int .u64 0, .slice none 0 0, .slice none 0 0, .slice none 0 0, .slice none 0 0]
/-- between two rounds -/
def MI (s : List UInt8) (w : World) (S : Nat) (pre : List (FA s)) (W : World) : Prop :=
  ∃ (v : Live) (p : Place) (en : Nat), Hid (∀ rest, runM s (noLive, 0, 0) (faVals pre ++ rest) = runM s (v, pre.length, en) rest) ∧ Hid (∀ rest fin, FrAt s 0 (faVals pre ++ rest) fin → FrAt s en rest fin) ∧ Hid (GoodM pre.length v) ∧ en ≤ s.length ∧
    S + 1 + 1 + 1 + 1 + 1 + 1 + 1 + 1 < W.heap.size ∧ Box W S 9 #[str s] ∧ (∃ u0 u1 u2 u3 u4 u5 u6, Box W (S + 1) 48 #[u0, u1, u2, u3, u4, u5, u6]) ∧ (∃ u, Box W (S + 1 + 1) 3 #[u]) ∧ (∃ u, Box W (S + 1 + 1 + 1) 3 #[u]) ∧ (∃ u, Box W (S + 1 + 1 + 1 + 1) 26 #[u]) ∧
    Box W (S + 1 + 1 + 1 + 1 + 1) 48 (v.cells p) ∧ Box W (S + 1 + 1 + 1 + 1 + 1 + 1) 3 #[.int .i64 (pre.length : Int)] ∧ Box W (S + 1 + 1 + 1 + 1 + 1 + 1 + 1) 3 #[.int .i64 (en : Int)] ∧ LiveIn W (S + 1 + 1 + 1 + 1 + 1 + 1 + 1 + 1 + 1) v p ∧ Below w.heap.size w W
/-- a round has left the loop: by a break, or by a return whose results lie in their cells -/
def MX (s : List UInt8) (w : World) (S : Nat) (cd : Code) (pre : List (FA s)) (W : World) : Prop :=
  (cd = .exit 0 ∧ MI s w S pre W ∧ Hid (∀ rest fin, FrAt s 0 (faVals pre ++ rest) fin → rest = [])) ∨
  (cd = .ret ∧ ∃ (v : Live) (p : Place) (n en : Nat), Hid (∀ rest, runM s (noLive, 0, 0) (faVals pre ++ rest) = (v, n, en, 9)) ∧ Hid (GoodM n v) ∧ n ≤ pre.length ∧
    Box W (S + 1) 48 (v.cells p) ∧ Box W (S + 1 + 1) 3 #[.int .i64 (n : Int)] ∧ Box W (S + 1 + 1 + 1) 3 #[.int .i64 (en : Int)] ∧ Box W (S + 1 + 1 + 1 + 1) 26 #[.int .i64 9] ∧ LiveIn W (S + 1 + 1 + 1 + 1 + 1 + 1 + 1 + 1 + 1) v p ∧ Below w.heap.size w W)
theorem MI.own (s : List UInt8) (w : World) (S B : Nat) (hB : w.heap.size ≤ B) : OwnFrom B (MI s w S) := by
  rintro pre X Y row ⟨v, p, en, h1, h2, h3, hen, hz, b0, ⟨u0, u1, u2, u3, u4, u5, u6, b1⟩, ⟨x2, b2⟩, ⟨x3, b3⟩, ⟨x4, b4⟩, b5, b6, b7, hl, h9⟩ hg hr
  have hr' := fun r e => (hr r e).2
  exact ⟨v, p, en, h1, h2, h3, hen, Nat.lt_of_lt_of_le hz hg.size, b0.turn hg hr', ⟨u0, u1, u2, u3, u4, u5, u6, b1.turn hg hr'⟩, ⟨x2, b2.turn hg hr'⟩, ⟨x3, b3.turn hg hr'⟩, ⟨x4, b4.turn hg hr'⟩, b5.turn hg hr', b6.turn hg hr', b7.turn hg hr', hl.turn hg hr', h9.grown hg h9.size (fun k e => Nat.le_trans hB (hr k e).1)⟩
theorem MX.own (s : List UInt8) (w : World) (S B : Nat) (cd : Code) (hB : w.heap.size ≤ B) : OwnFrom B (MX s w S cd) := by
  rintro pre X Y row (⟨h0, h, hf⟩ | ⟨h0, v, p, n, en, h1, h2, h3, b1, b2, b3, b4, hl, h9⟩) hg hr
  · exact .inl ⟨h0, MI.own s w S B hB pre X Y row h hg hr, hf⟩
  · have hr' := fun r e => (hr r e).2
    exact .inr ⟨h0, v, p, n, en, h1, h2, h3, b1.turn hg hr', b2.turn hg hr', b3.turn hg hr', b4.turn hg hr', hl.turn hg hr', h9.grown hg h9.size (fun k e => Nat.le_trans hB (hr k e).1)⟩
/-- a round's frame -/
def MA (s : List UInt8) (S : Nat) (x : FA s) (a' : Act) (W : World) : Prop := ∃ Bx, S + 1 + 1 + 1 + 1 + 1 + 1 + 1 + 1 < Bx ∧ Box W Bx 73 #[.int .u8 (x.1.2.kind.toNat : Int), str x.1.2.load] ∧ a' = { tmps := #[str s, .pointer (some ⟨S, 0, none⟩), .pointer (some ⟨S + 1, 0, none⟩), .pointer (some ⟨S + 1 + 1, 0, none⟩), .pointer (some ⟨S + 1 + 1 + 1, 0, none⟩), .pointer (some ⟨S + 1 + 1 + 1 + 1, 0, none⟩), .pointer (some ⟨S + 1 + 1 + 1 + 1 + 1, 0, none⟩), .pointer (some ⟨S + 1 + 1 + 1 + 1 + 1 + 1, 0, none⟩), .pointer (some ⟨S + 1 + 1 + 1 + 1 + 1 + 1 + 1, 0, none⟩), .int .i64 (x.1.1 : Int), .pointer (some ⟨Bx, 0, none⟩), undef, undef, undef, undef, undef, undef, undef, str s, .func (.func 88) #[] #[.pointer (some ⟨S + 1 + 1 + 1 + 1 + 1 + 1 + 1 + 1, 0, none⟩)], .int .i64 (x.1.1 : Int), .agg #[.int .u8 (x.1.2.kind.toNat : Int), str x.1.2.load], undef, undef, undef, undef, undef, undef, undef, undef, undef, undef, undef, undef, undef, undef, undef, undef, undef, undef, undef, undef, undef, undef, undef, undef, undef, undef, undef, undef, undef, undef, undef, undef, undef, undef, undef, undef, undef, undef, undef, undef, undef, undef, undef, undef, undef, undef, undef], defers := [] }
theorem MA.own (s : List UInt8) (S B : Nat) (x : FA s) (a' : Act) : OwnFrom B (fun (_ : Unit) W => MA s S x a' W) := by
  rintro _ X Y row ⟨Bx, h1, h2, h3⟩ hg hr
  exact ⟨Bx, h1, h2.turn hg (fun r e => (hr r e).2), h3⟩
theorem runM_bad {s : List UInt8} {st : Live × Nat × Nat} {x : Nat × Frm} {l : List (Nat × Frm)} (h : okM st.1 x = false) : runM s st (x :: l) = (st.1, st.2.1, x.1, 9) := by
  rw [runM, if_neg (by rw [h]; simp)]
theorem runM_ok {s : List UInt8} {st : Live × Nat × Nat} {x : Nat × Frm} {l : List (Nat × Frm)} (h : okM st.1 x = true) : runM s st (x :: l) = runM s (nextM st.1 x, st.2.1 + 1, x.1 + (takeFrame (s.drop x.1)).2.1) l := by
  rw [runM, if_pos h]
theorem faVals_snoc {s : List UInt8} (pre : List (FA s)) (x : FA s) (rest : List (Nat × Frm)) : faVals (pre ++ [x]) ++ rest = faVals pre ++ (x.1 :: rest) := by
  rw [faVals, List.map_append, List.append_assoc]
  rfl
theorem RS.put1 {S : Nat → Prop} (w : World) {g i : Nat} (hg : ¬ S g) (v : Value) : RS S w.drew (w.setCell ⟨g, i, none⟩ v).drew :=
  RS.fr (S' := S) ((Fr.refl w).set (p := ⟨g, i, none⟩) v (fun _ h => hg h)).dd (fun _ _ h => h)
theorem _root_.Go.KeepsFrom.setAt {B : Nat} {w w' : World} (h : KeepsFrom B w w') (p : Addr) (v : Value) : KeepsFrom B w (w'.setCell p v) := h.trans ((KeepsOthers.setCell _ _ _).from _)
theorem _root_.Go.KeepsFrom.put7 {B : Nat} {w w' : World} (h : KeepsFrom B w w') (g : Nat) (v0 v1 v2 v3 v4 v5 v6 : Value) :
    KeepsFrom B w (((((((w'.setCell ⟨g, 0, none⟩ v0).setCell ⟨g, 1, none⟩ v1).setCell ⟨g, 2, none⟩ v2).setCell ⟨g, 3, none⟩ v3).setCell ⟨g, 4, none⟩ v4).setCell ⟨g, 5, none⟩ v5).setCell ⟨g, 6, none⟩ v6) :=
  ((((((h.setAt _ _).setAt _ _).setAt _ _).setAt _ _).setAt _ _).setAt _ _).setAt _ _
theorem _root_.Go.KeepsFrom.drew {B : Nat} {w w' : World} (h : KeepsFrom B w w') : KeepsFrom B w w'.drew := h.trans (KeepsFrom.ext (Ext.dr _))
theorem Box.far7 {w : World} {g g' : Nat} {t : TypeId} {cs : Array Value} (h : Box w g t cs) (hne : g ≠ g') (v0 v1 v2 v3 v4 v5 v6 : Value) :
    Box (((((((w.setCell ⟨g', 0, none⟩ v0).setCell ⟨g', 1, none⟩ v1).setCell ⟨g', 2, none⟩ v2).setCell ⟨g', 3, none⟩ v3).setCell ⟨g', 4, none⟩ v4).setCell ⟨g', 5, none⟩ v5).setCell ⟨g', 6, none⟩ v6) g t cs :=
  ((((((h.far (p := ⟨g', 0, none⟩) hne v0).far (p := ⟨g', 1, none⟩) hne v1).far (p := ⟨g', 2, none⟩) hne v2).far (p := ⟨g', 3, none⟩) hne v3).far (p := ⟨g', 4, none⟩) hne v4).far (p := ⟨g', 5, none⟩) hne v5).far (p := ⟨g', 6, none⟩) hne v6
theorem man_results {fn : Func} {tmps : Array Value} {W : World} {S : Nat} {r : Live × Nat × Nat × Int} {p : Place} (hres : fn.results = #[.cell 2 48, .cell 3 3, .cell 4 3, .cell 5 26])
    (h2 : tmps.getD 2 undef = .pointer (some ⟨S + 1, 0, none⟩)) (h3 : tmps.getD 3 undef = .pointer (some ⟨S + 1 + 1, 0, none⟩)) (h4 : tmps.getD 4 undef = .pointer (some ⟨S + 1 + 1 + 1, 0, none⟩)) (h5 : tmps.getD 5 undef = .pointer (some ⟨S + 1 + 1 + 1 + 1, 0, none⟩))
    (b1 : Box W (S + 1) 48 (r.1.cells p)) (b2 : Box W (S + 1 + 1) 3 #[.int .i64 (r.2.1 : Int)]) (b3 : Box W (S + 1 + 1 + 1) 3 #[.int .i64 (r.2.2.1 : Int)]) (b4 : Box W (S + 1 + 1 + 1 + 1) 26 #[.int .i64 r.2.2.2]) :
    (results fn tmps).run Try.prog W = .ok (manVal r p) W := by
  have z0 := b1.cell 0
  have z1 := b1.cell 1
  have z2 := b1.cell 2
  have z3 := b1.cell 3
  have z4 := b1.cell 4
  have z5 := b1.cell 5
  have z6 := b1.cell 6
  have y2 := b2.cell 0
  have y3 := b3.cell 0
  have y4 := b4.cell 0
  unfold manVal
  unfold Live.cells at z0 z1 z2 z3 z4 z5 z6 ⊢
  simp only [List.getElem?_toArray, List.getElem?_cons_zero, List.getElem?_cons_succ] at z0 z1 z2 z3 z4 z5 z6 y2 y3 y4
  have h2' : tmps[2]?.getD undef = .pointer (some ⟨S + 1, 0, none⟩) := by simpa using h2
  have h3' : tmps[3]?.getD undef = .pointer (some ⟨S + 1 + 1, 0, none⟩) := by simpa using h3
  have h4' : tmps[4]?.getD undef = .pointer (some ⟨S + 1 + 1 + 1, 0, none⟩) := by simpa using h4
  have h5' : tmps[5]?.getD undef = .pointer (some ⟨S + 1 + 1 + 1 + 1, 0, none⟩) := by simpa using h5
  simp [results, hres, h2', h3', h4', h5', go_sem, z0, z1, z2, z3, z4, z5, z6, y2, y3, y4]
theorem takeFrame_nil' : (takeFrame []).2.2 ≠ 0 := by simp [takeFrame]
set_option maxRecDepth 100000 in
set_option maxHeartbeats 3000000 in
theorem manReplay_anyN (s : List UInt8) (hl : s.length ≤ 1099511627776) (N : Nat) (hNb : N ≤ 2097152) (hN : ∀ F fin, FrAt s 0 F fin → F.length ≤ N) (w : World) : Calls Try.prog 33 #[str s] w (ManPost s w) := by
  refine (callsIn_wide (n := 5)).1 ?_
  refine callsIn_of_wp_marks Try.func33 rfl trivial ?_ rfl
  simp only [Try.ntmps33, List.size_toArray, List.length_cons, List.length_nil, Nat.reduceAdd, Nat.reduceSub, Array.replicate_succ, Array.replicate_zero, List.push_toArray, List.append_toArray, List.nil_append, List.cons_append]
  gi_wp2
  refine wpIn_scope_wide ?_
  gi_wp2
  apply wpIn_label
  gi_wp2_with (refine ⟨trivial, ?_⟩; gi_at_call 67; refine (all_in _ s _).mono ?_; rintro e w' ⟨rfl, rfl⟩)
  obtain ⟨S, hS⟩ : ∃ S, w.heap.size = S := ⟨_, rfl⟩
  obtain ⟨w0, hw0⟩ : ∃ w0, w0 = (((((((((w.alloc (.cells #[str s] 9)).alloc (.cells #[.int .u64 0, .int .u64 0, .int .u64 0, .slice none 0 0, .slice none 0 0, .slice none 0 0, .slice none 0 0] 48)).alloc (.cells #[.int .i64 0] 3)).alloc (.cells #[.int .i64 0] 3)).alloc (.cells #[.int .i64 0] 26)).alloc (.cells #[.int .u64 0, .int .u64 0, .int .u64 0, .slice none 0 0, .slice none 0 0, .slice none 0 0, .slice none 0 0] 48)).alloc (.cells #[.int .i64 0] 3)).alloc (.cells #[.int .i64 0] 3)).alloc (.cells #[str s] 9)) := ⟨_, rfl⟩
  have hz0 : w0.heap.size = S + 1 + 1 + 1 + 1 + 1 + 1 + 1 + 1 + 1 := by rw [hw0]; simp [hS]
  have c0 : Box w0 (S) 9 #[str s] := by rw [hw0]; exact (((((((((Box.new_at _ _ _ _ hS.symm).alloc _).alloc _).alloc _).alloc _).alloc _).alloc _).alloc _).alloc _)
  have c1 : Box w0 (S + 1) 48 zeroLive := by rw [hw0]; exact ((((((((Box.new_at _ _ _ _ (by simp [hS])).alloc _).alloc _).alloc _).alloc _).alloc _).alloc _).alloc _)
  have c2 : Box w0 (S + 1 + 1) 3 #[.int .i64 0] := by rw [hw0]; exact (((((((Box.new_at _ _ _ _ (by simp [hS])).alloc _).alloc _).alloc _).alloc _).alloc _).alloc _)
  have c3 : Box w0 (S + 1 + 1 + 1) 3 #[.int .i64 0] := by rw [hw0]; exact ((((((Box.new_at _ _ _ _ (by simp [hS])).alloc _).alloc _).alloc _).alloc _).alloc _)
  have c4 : Box w0 (S + 1 + 1 + 1 + 1) 26 #[.int .i64 0] := by rw [hw0]; exact (((((Box.new_at _ _ _ _ (by simp [hS])).alloc _).alloc _).alloc _).alloc _)
  have c5 : Box w0 (S + 1 + 1 + 1 + 1 + 1) 48 zeroLive := by rw [hw0]; exact ((((Box.new_at _ _ _ _ (by simp [hS])).alloc _).alloc _).alloc _)
  have c6 : Box w0 (S + 1 + 1 + 1 + 1 + 1 + 1) 3 #[.int .i64 0] := by rw [hw0]; exact (((Box.new_at _ _ _ _ (by simp [hS])).alloc _).alloc _)
  have c7 : Box w0 (S + 1 + 1 + 1 + 1 + 1 + 1 + 1) 3 #[.int .i64 0] := by rw [hw0]; exact ((Box.new_at _ _ _ _ (by simp [hS])).alloc _)
  have c8 : Box w0 (S + 1 + 1 + 1 + 1 + 1 + 1 + 1 + 1) 9 #[str s] := by rw [hw0]; exact (Box.new_at _ _ _ _ (by simp [hS]))
  have hX0 : Ext w w0 := by rw [hw0]; (repeat (first | exact Below.refl _ _ | refine Ext.trans' ?_ (Ext.al _ _) | refine Ext.trans' ?_ (Ext.dr _) | refine Ext.trans' ?_ (by assumption)))
  rw [← hw0, hS]
  clear hw0
  refine wpIn_rangeFunc_ownH rfl (by omega) (gf := 88) (lb := #[.pointer (some ⟨S + 1 + 1 + 1 + 1 + 1 + 1 + 1 + 1, 0, none⟩)]) rfl trivial (enters_of Try.func88 (by kernel_rfl) rfl)
    (all_stopsN (5 - 1) (by omega) (S + 1 + 1 + 1 + 1 + 1 + 1 + 1 + 1) s hl N hN w0 (by omega) (c8.cell 0)) (fun h k => ⟨Nat.le_trans h.1 k.1, k.2.trans h.2⟩)
    (fun W l o o' hl1 hl2 _ _ => by have hl3 := (Array.getElem?_eq_some_iff.1 hl2).1; exact ⟨by simp, World.cell?_of_block ((grownBy_putObj' W l o').block _ (by show S + 1 + 1 + 1 + 1 + 1 + 1 + 1 + 1 < _; omega) (by intro e; injection e with e; dsimp only at e; omega))⟩) (Below.refl _ _) (fun _ => rfl)
    (MI s w S) (MX s w S) (MI.own s w S _ (by omega)) (fun cd => MX.own s w S _ cd (by omega))
    ⟨noLive, noPlace, 0, fun _ => rfl, fun _ _ h => h, GoodM.zero, by omega, by omega, c0, ⟨_, _, _, _, _, _, _, c1⟩, ⟨_, c2⟩, ⟨_, c3⟩, ⟨_, c4⟩, c5, c6, c7, LiveAt.none_ _, hX0⟩ (MA s S) (fun x a' => MA.own s S _ x a') ?assign ?body ?done ?stop
  case assign =>
    rintro l pre x W K hI hK
    have hI' := hI
    obtain ⟨v, p, en, h1, h2, h3, hen, hz, b0, ⟨u0, u1, u2, u3, u4, u5, u6, b1⟩, ⟨x2, b2⟩, ⟨x3, b3⟩, ⟨x4, b4⟩, b5, b6, b7, hla, h9⟩ := hI
    dsimp only [faEnc]
    gi_wp2
    have hA : Ext W (W.alloc (.cells #[.int .u8 (x.1.2.kind.toNat : Int), str x.1.2.load] 73)) := Ext.al _ _
    exact hK _ _ (KeepsFrom.ext hA) ⟨hA.size, hA.cell (p := ⟨S + 1 + 1 + 1 + 1 + 1 + 1 + 1 + 1, 0, none⟩) hz⟩
      ⟨v, p, en, h1, h2, h3, hen, Nat.lt_of_lt_of_le hz hA.size, b0.ext hA, ⟨_, _, _, _, _, _, _, b1.ext hA⟩, ⟨_, b2.ext hA⟩, ⟨_, b3.ext hA⟩, ⟨_, b4.ext hA⟩, b5.ext hA, b6.ext hA, b7.ext hA, fun j hj => ((hla j hj).below hA (Nat.le_refl _)).wide (Nat.le_refl _) hA.size, h9.trans' hA⟩ ⟨W.heap.size, by omega, Box.new _ _ _, rfl⟩
  case body =>
    rintro l pre x a' W hlW ⟨rc, hrc⟩ ⟨v, p, en, hH, hHF, hgd, hen, hz, bS, ⟨u0, u1, u2, u3, u4, u5, u6, b1⟩, ⟨x2, b2⟩, ⟨x3, b3⟩, ⟨x4, b4⟩, b5, b6, b7, hla, hX⟩ ⟨Bx, hBx, bX, rfl⟩ hlt
    obtain ⟨⟨pl, kd, ld⟩, hpl, hld⟩ := x
    have hld' : ld.length ≤ 262144 := hld
    have hpl' : pl ≤ s.length := hpl
    dsimp only at *
    have hf0 := bX.cell 0
    have hf1 := bX.cell 1
    simp only [List.getElem?_toArray, List.getElem?_cons_zero, List.getElem?_cons_succ] at hf0 hf1
    have hv37 : ∀ j, j < 4 → (v.tab j).length ≤ 549755813888 := fun j hj => by have := hgd.out.len j hj; omega
    have C := Lib.hid (fun w => decodeEdit_any ld (by omega) w)
    have HOKE := Lib.hid (decodeEdit_ok ld)
    have HOK : Hid (okM v (pl, ⟨kd, ld⟩) = (decide (kd.toNat = 7) && decide ((decodeEdit ld).2 = 0) && decide ((applyWith putProg v (decodeEdit ld).1).2 = 0))) := by
      unfold Hid okM
      dsimp only
      rw [show decide (kd = 7) = decide (kd.toNat = 7) from decide_eq_decide.2 kind_seven.symm, (apply_same hgd.out.srt _).1]
    have HBAD : Hid (okM v (pl, ⟨kd, ld⟩) = false → ∀ rest, runM s (noLive, 0, 0) (faVals (pre ++ [⟨(pl, ⟨kd, ld⟩), hpl, hld⟩]) ++ rest) = (v, pre.length, pl, 9)) := fun h rest => by
      rw [faVals_snoc]
      exact (hH.out _).trans (runM_bad h)
    have HN : Hid (∀ m, (takeFrame (s.drop pl)).2.1 = m → okM v (pl, ⟨kd, ld⟩) = true → ∀ rest, runM s (noLive, 0, 0) (faVals (pre ++ [⟨(pl, ⟨kd, ld⟩), hpl, hld⟩]) ++ rest) = runM s ((applyWith putProg v (decodeEdit ld).1).1, pre.length + 1, pl + m) rest) := fun m hm h rest => by
      rw [faVals_snoc]
      refine (hH.out _).trans ((runM_ok h).trans ?_)
      simp only [nextM]
      rw [hm, (apply_same hgd.out.srt _).1]
    have HG : Hid (okM v (pl, ⟨kd, ld⟩) = true → GoodM (pre.length + 1) (applyWith putProg v (decodeEdit ld).1).1) := fun hok => by
      have h := hgd.out.next (x := (pl, ⟨kd, ld⟩)) hok
      simp only [nextM] at h
      rw [(apply_same hgd.out.srt _).1]
      exact h
    have HFN : Hid (∀ m, (takeFrame (s.drop pl)).2.1 = m → ∀ rest fin, FrAt s 0 (faVals (pre ++ [⟨(pl, ⟨kd, ld⟩), hpl, hld⟩]) ++ rest) fin → FrAt s (pl + m) rest fin) := fun m hm rest fin h => by
      rw [faVals_snoc] at h
      have h1 := hHF.out _ _ h
      cases h1 with
      | step _ f n rest fin h hr =>
        rw [h] at hm
        rw [← hm]
        exact hr
    have HNUM := Lib.hid hgd.out.num
    have HV37 := Lib.hid hv37
    have CT := Lib.hid (fun w => frameTake_any (s.drop pl) (by simp; omega) w)
    obtain ⟨g1, g2, g3, -⟩ := takeFrame_facts (s.drop pl)
    rw [List.length_drop] at g2
    obtain ⟨⟨⟨k2, lf⟩, m, e2⟩, hu⟩ : ∃ r, takeFrame (s.drop pl) = r := ⟨_, rfl⟩
    have HN1 := Lib.hid (HN.out m (by rw [hu]))
    have HF1 := Lib.hid (HFN.out m (by rw [hu]))
    rw [hu] at CT g1 g2 g3
    dsimp only at g1 g2 g3
    obtain ⟨⟨e, no⟩, hdec⟩ : ∃ r, decodeEdit ld = r := ⟨_, rfl⟩
    rw [hdec] at C HOKE HOK HN1 HG
    dsimp only at HOKE HOK HN1 HG
    have hkl := kd.toNat_lt
    obtain ⟨kn, hkn⟩ : ∃ kn, kd.toNat = kn := ⟨_, rfl⟩
    rw [hkn] at hkl HOK hf0
    have HK := Lib.hid hkn
    clear HN HFN hdec hu hkn hH hHF hv37
    gi_wp2_with fail
    refine ⟨trivial, (CallsIn.inRound l (callsIn_wide.2 (C.out _))).mono ?_⟩
    rintro _ w2 ⟨A2, A2', c2, c2', rfl, hat2, hb2⟩
    dsimp only [pairVal, Edit.val] at *
    obtain ⟨w3, hw3⟩ : ∃ w3, w3 = w2.alloc (.cells #[.int .u64 e.next, .int .u64 e.seq, .int .u64 e.log, .slice A2 e.add.length c2, .slice A2' e.drop.length c2'] 35) := ⟨_, rfl⟩
    have hE23 : Ext w2 w3 := by rw [hw3]; exact Ext.al _ _
    have hb3 := hb2.trans' hE23
    have l0 := (b5.ext hb3).cell 0
    have l1 := (b5.ext hb3).cell 1
    have l2 := (b5.ext hb3).cell 2
    have l3 := (b5.ext hb3).cell 3
    have l4 := (b5.ext hb3).cell 4
    have l5 := (b5.ext hb3).cell 5
    have l6 := (b5.ext hb3).cell 6
    rw [hw3] at l0 l1 l2 l3 l4 l5 l6
    simp only [Live.cells, List.getElem?_toArray, List.getElem?_cons_zero, List.getElem?_cons_succ] at l0 l1 l2 l3 l4 l5 l6
    clear hf0 hf1
    gi_wp2_with fail
    rw [← hw3]
    refine ⟨trivial, (CallsIn.inRound l (callsIn_wide.2 (apply_any v p e HOKE.out HV37.out HNUM.out A2 A2' c2 c2' w3 (hat2.ext hE23) (hla.live.ext hb3)))).mono ?_⟩
    rintro _ w4 ⟨p2, rfl, hin4, hb4⟩
    dsimp only [livVal, Live.cells]
    obtain ⟨⟨o, nb⟩, hap⟩ : ∃ r, applyWith putProg v e = r := ⟨_, rfl⟩
    rw [hap] at hin4 HOK HN1 HG ⊢
    dsimp only at hin4 HOK HN1 HG ⊢
    have hb4W := hb3.trans' hb4
    have hz3 := hE23.size
    have hz4 := hb4W.size
    have bX4 := bX.ext hb4W
    have bS4 := bS.ext hb4W
    have b14 := b1.ext hb4W
    have b24 := b2.ext hb4W
    have b34 := b3.ext hb4W
    have b44 := b4.ext hb4W
    have b54 := b5.ext hb4W
    have b64 := b6.ext hb4W
    have b74 := b7.ext hb4W
    have hX4 := hX.trans' hb4W
    have hK4 : KeepsFrom w0.heap.size W w4 := KeepsFrom.ext hb4W
    have hlo : S + 1 + 1 + 1 + 1 + 1 + 1 + 1 + 1 + 1 ≤ w3.heap.size := by have := hb2.size; omega
    have hin5 : LiveIn w4 (S + 1 + 1 + 1 + 1 + 1 + 1 + 1 + 1 + 1) o p2 := fun j hj => (hin4 j hj).wide hlo (Nat.le_refl _)
    have hla4 : LiveIn w4 (S + 1 + 1 + 1 + 1 + 1 + 1 + 1 + 1 + 1) v p := fun j hj => ((hla j hj).below hb4W (Nat.le_refl _)).wide (Nat.le_refl _) hb4W.size
    have hkp4 : w4.cell? ⟨S + 1 + 1 + 1 + 1 + 1 + 1 + 1 + 1, 0, none⟩ = W.cell? ⟨S + 1 + 1 + 1 + 1 + 1 + 1 + 1 + 1, 0, none⟩ := hb4W.cell (p := ⟨S + 1 + 1 + 1 + 1 + 1 + 1 + 1 + 1, 0, none⟩) hz
    clear hap l0 l1 l2 l3 l4 l5 l6 hw3 hE23 hb3 hb2 hat2 hin4 hb4 hla hX bS b1 b2 b3 b4 b5 b6 b7 bX hlo C HOKE HNUM HV37
    have y0 := (bX4.ext (Ext.al w4 (.cells #[.int .u64 o.next, .int .u64 o.seq, .int .u64 o.log, .slice (p2.A 0) (o.tab 0).length (p2.c 0), .slice (p2.A 1) (o.tab 1).length (p2.c 1), .slice (p2.A 2) (o.tab 2).length (p2.c 2), .slice (p2.A 3) (o.tab 3).length (p2.c 3)] 48))).cell 0
    rw [show ((kd.toNat : Nat) : Int) = ((kn : Nat) : Int) by rw [HK.out]] at y0
    simp only [List.getElem?_toArray, List.getElem?_cons_zero, List.getElem?_cons_succ] at y0
    have hBz := bX4.lt
    have hl0 := bS4.lt
    have hl5 := b54.lt
    have hl6 := b64.lt
    have hl7 := b74.lt
    by_cases hk : kn = 7
    · by_cases hn : no = 0
      · by_cases hs : nb = 0
        · have hok : okM v (pl, ⟨kd, ld⟩) = true := by rw [HOK.out]; simp [hk, hn, hs]
          have HNX := Lib.hid (HN1.out hok)
          have HGX := Lib.hid (HG.out hok)
          subst hk hn hs
          clear hok HOK HBAD HN1 HG HK
          have l0 := b54.cell 0
          have l1 := b54.cell 1
          have l2 := b54.cell 2
          have l3 := b54.cell 3
          have l4 := b54.cell 4
          have l5 := b54.cell 5
          have l6 := b54.cell 6
          have lf := b54.frozen
          have n0 := b64.cell 0
          have nf := b64.frozen
          have s0 := bS4.cell 0
          simp only [Live.cells, List.getElem?_toArray, List.getElem?_cons_zero, List.getElem?_cons_succ] at l0 l1 l2 l3 l4 l5 l6 n0 s0
          gi_wp2_with fail
          obtain ⟨w6, hw6⟩ : ∃ w6, w6 = ((((((((((w4.setCell ⟨S + 1 + 1 + 1 + 1 + 1, 0, none⟩ (.int .u64 o.next)).setCell ⟨S + 1 + 1 + 1 + 1 + 1, 1, none⟩ (.int .u64 o.seq)).setCell ⟨S + 1 + 1 + 1 + 1 + 1, 2, none⟩ (.int .u64 o.log)).setCell ⟨S + 1 + 1 + 1 + 1 + 1, 3, none⟩ (.slice (p2.A 0) (o.tab 0).length (p2.c 0))).setCell ⟨S + 1 + 1 + 1 + 1 + 1, 4, none⟩ (.slice (p2.A 1) (o.tab 1).length (p2.c 1))).setCell ⟨S + 1 + 1 + 1 + 1 + 1, 5, none⟩ (.slice (p2.A 2) (o.tab 2).length (p2.c 2))).setCell ⟨S + 1 + 1 + 1 + 1 + 1, 6, none⟩ (.slice (p2.A 3) (o.tab 3).length (p2.c 3)))).setCell ⟨S + 1 + 1 + 1 + 1 + 1 + 1, 0, none⟩ (.int .i64 ((pre.length : Int) + 1))).alloc (.cells #[.int .u64 o.next, .int .u64 o.seq, .int .u64 o.log, .slice (p2.A 0) (o.tab 0).length (p2.c 0), .slice (p2.A 1) (o.tab 1).length (p2.c 1), .slice (p2.A 2) (o.tab 2).length (p2.c 2), .slice (p2.A 3) (o.tab 3).length (p2.c 3)] 48)) := ⟨_, rfl⟩
          rw [← hw6]
          have bS6 : Box w6 S 9 #[str s] := by rw [hw6]; exact ((bS4.far7 (by omega) _ _ _ _ _ _ _).far (p := ⟨S + 1 + 1 + 1 + 1 + 1 + 1, 0, none⟩) (show S ≠ S + 1 + 1 + 1 + 1 + 1 + 1 by omega) _).ext (Ext.al _ _)
          have b16 : Box w6 (S + 1) 48 #[u0, u1, u2, u3, u4, u5, u6] := by rw [hw6]; exact ((b14.far7 (by omega) _ _ _ _ _ _ _).far (p := ⟨S + 1 + 1 + 1 + 1 + 1 + 1, 0, none⟩) (show S + 1 ≠ S + 1 + 1 + 1 + 1 + 1 + 1 by omega) _).ext (Ext.al _ _)
          have b26 : Box w6 (S + 1 + 1) 3 #[x2] := by rw [hw6]; exact ((b24.far7 (by omega) _ _ _ _ _ _ _).far (p := ⟨S + 1 + 1 + 1 + 1 + 1 + 1, 0, none⟩) (show S + 1 + 1 ≠ S + 1 + 1 + 1 + 1 + 1 + 1 by omega) _).ext (Ext.al _ _)
          have b36 : Box w6 (S + 1 + 1 + 1) 3 #[x3] := by rw [hw6]; exact ((b34.far7 (by omega) _ _ _ _ _ _ _).far (p := ⟨S + 1 + 1 + 1 + 1 + 1 + 1, 0, none⟩) (show S + 1 + 1 + 1 ≠ S + 1 + 1 + 1 + 1 + 1 + 1 by omega) _).ext (Ext.al _ _)
          have b46 : Box w6 (S + 1 + 1 + 1 + 1) 26 #[x4] := by rw [hw6]; exact ((b44.far7 (by omega) _ _ _ _ _ _ _).far (p := ⟨S + 1 + 1 + 1 + 1 + 1 + 1, 0, none⟩) (show S + 1 + 1 + 1 + 1 ≠ S + 1 + 1 + 1 + 1 + 1 + 1 by omega) _).ext (Ext.al _ _)
          have b56 : Box w6 (S + 1 + 1 + 1 + 1 + 1) 48 (o.cells p2) := by rw [hw6]; exact ((b54.put7 _ _ _ _ _ _ _).far (p := ⟨S + 1 + 1 + 1 + 1 + 1 + 1, 0, none⟩) (show S + 1 + 1 + 1 + 1 + 1 ≠ S + 1 + 1 + 1 + 1 + 1 + 1 by omega) _).ext (Ext.al _ _)
          have b66 : Box w6 (S + 1 + 1 + 1 + 1 + 1 + 1) 3 #[.int .i64 ((pre.length : Int) + 1)] := by
            have h := ((b64.far7 (g' := S + 1 + 1 + 1 + 1 + 1) (by omega) (.int .u64 o.next) (.int .u64 o.seq) (.int .u64 o.log) (.slice (p2.A 0) (o.tab 0).length (p2.c 0)) (.slice (p2.A 1) (o.tab 1).length (p2.c 1)) (.slice (p2.A 2) (o.tab 2).length (p2.c 2)) (.slice (p2.A 3) (o.tab 3).length (p2.c 3))).put 0 (.int .i64 ((pre.length : Int) + 1))).ext (Ext.al _ (.cells #[.int .u64 o.next, .int .u64 o.seq, .int .u64 o.log, .slice (p2.A 0) (o.tab 0).length (p2.c 0), .slice (p2.A 1) (o.tab 1).length (p2.c 1), .slice (p2.A 2) (o.tab 2).length (p2.c 2), .slice (p2.A 3) (o.tab 3).length (p2.c 3)] 48))
            simp only [List.setIfInBounds_toArray, List.set_cons_zero] at h
            rw [hw6]; exact h
          have b76 : Box w6 (S + 1 + 1 + 1 + 1 + 1 + 1 + 1) 3 #[.int .i64 (en : Int)] := by rw [hw6]; exact ((b74.far7 (by omega) _ _ _ _ _ _ _).far (p := ⟨S + 1 + 1 + 1 + 1 + 1 + 1, 0, none⟩) (show S + 1 + 1 + 1 + 1 + 1 + 1 + 1 ≠ S + 1 + 1 + 1 + 1 + 1 + 1 by omega) _).ext (Ext.al _ _)
          have hX6 : Ext w w6 := by rw [hw6]; exact ((Below.put7 hX4 (by omega) _ _ _ _ _ _ _).setCell (p := ⟨S + 1 + 1 + 1 + 1 + 1 + 1, 0, none⟩) (show w.heap.size ≤ S + 1 + 1 + 1 + 1 + 1 + 1 by omega) _).trans' (Ext.al _ _)
          have hK6 : KeepsFrom w0.heap.size W w6 := by rw [hw6]; exact ((hK4.put7 _ _ _ _ _ _ _ _).setAt _ _).trans (KeepsFrom.ext (Ext.al _ _))
          have hF6 : Fr (fun b => b ≠ S + 1 + 1 + 1 + 1 + 1 ∧ b ≠ S + 1 + 1 + 1 + 1 + 1 + 1) w4 w6 := by rw [hw6]; exact ((Fr.put7 (Fr.refl w4) (g := S + 1 + 1 + 1 + 1 + 1) (fun h => h.1 rfl) _ _ _ _ _ _ _).set (p := ⟨S + 1 + 1 + 1 + 1 + 1 + 1, 0, none⟩) _ (fun _ h => h.2 rfl)).alloc _
          have hin6 : LiveIn w6 (S + 1 + 1 + 1 + 1 + 1 + 1 + 1 + 1 + 1) o p2 := fun j hj => ((hin5 j hj).fr hF6 (Nat.le_refl _) (fun x h1 _ => by omega)).wide (Nat.le_refl _) hF6.size
          have hkp6 : w6.cell? ⟨S + 1 + 1 + 1 + 1 + 1 + 1 + 1 + 1, 0, none⟩ = W.cell? ⟨S + 1 + 1 + 1 + 1 + 1 + 1 + 1 + 1, 0, none⟩ := (World.cell?_of_block (a := ⟨S + 1 + 1 + 1 + 1 + 1 + 1 + 1 + 1, 0, none⟩) (hF6.block (S + 1 + 1 + 1 + 1 + 1 + 1 + 1 + 1) (by omega) (by omega))).trans hkp4
          have hz6 := hF6.size
          clear hw6 hF6 hin5 hla4 hkp4 hX4 hK4 hb4W bS4 b14 b24 b34 b44 b54 b64 b74 bX4 l0 l1 l2 l3 l4 l5 l6 lf n0 nf s0 y0 hl0 hl5 hl6 hl7 hBz
          refine ⟨trivial, (CallsIn.inRound l (callsIn_wide.2 (CT.out _))).mono ?_⟩
          rintro _ w7 ⟨rfl, hb7⟩
          dsimp only
          have hb8 : Ext w6 (w7.alloc (.cells #[.int .u8 (k2.toNat : Int), str lf] 73)) := hb7.trans' (Ext.al _ _)
          have e0 := (b76.ext hb8).cell 0
          have ef := (b76.ext hb8).frozen
          have s0 := (bS6.ext hb8).cell 0
          simp only [List.getElem?_toArray, List.getElem?_cons_zero, List.getElem?_cons_succ] at e0 s0
          have q2 : S ≠ S + 1 + 1 + 1 + 1 + 1 + 1 + 1 := by omega
          have bS9 := (bS6.ext hb8).far (p := ⟨S + 1 + 1 + 1 + 1 + 1 + 1 + 1, 0, none⟩) q2 (.int .i64 ((pl + m : Nat) : Int))
          have b19 := (b16.ext hb8).far (p := ⟨S + 1 + 1 + 1 + 1 + 1 + 1 + 1, 0, none⟩) (show S + 1 ≠ S + 1 + 1 + 1 + 1 + 1 + 1 + 1 by omega) (.int .i64 ((pl + m : Nat) : Int))
          have b29 := (b26.ext hb8).far (p := ⟨S + 1 + 1 + 1 + 1 + 1 + 1 + 1, 0, none⟩) (show S + 1 + 1 ≠ S + 1 + 1 + 1 + 1 + 1 + 1 + 1 by omega) (.int .i64 ((pl + m : Nat) : Int))
          have b39 := (b36.ext hb8).far (p := ⟨S + 1 + 1 + 1 + 1 + 1 + 1 + 1, 0, none⟩) (show S + 1 + 1 + 1 ≠ S + 1 + 1 + 1 + 1 + 1 + 1 + 1 by omega) (.int .i64 ((pl + m : Nat) : Int))
          have b49 := (b46.ext hb8).far (p := ⟨S + 1 + 1 + 1 + 1 + 1 + 1 + 1, 0, none⟩) (show S + 1 + 1 + 1 + 1 ≠ S + 1 + 1 + 1 + 1 + 1 + 1 + 1 by omega) (.int .i64 ((pl + m : Nat) : Int))
          have b59 := (b56.ext hb8).far (p := ⟨S + 1 + 1 + 1 + 1 + 1 + 1 + 1, 0, none⟩) (show S + 1 + 1 + 1 + 1 + 1 ≠ S + 1 + 1 + 1 + 1 + 1 + 1 + 1 by omega) (.int .i64 ((pl + m : Nat) : Int))
          have b69 := (b66.ext hb8).far (p := ⟨S + 1 + 1 + 1 + 1 + 1 + 1 + 1, 0, none⟩) (show S + 1 + 1 + 1 + 1 + 1 + 1 ≠ S + 1 + 1 + 1 + 1 + 1 + 1 + 1 by omega) (.int .i64 ((pl + m : Nat) : Int))
          have b79 := (b76.ext hb8).put 0 (.int .i64 ((pl + m : Nat) : Int))
          simp only [List.setIfInBounds_toArray, List.set_cons_zero] at b79
          have hX9 := (hX6.trans' hb8).setCell (p := ⟨S + 1 + 1 + 1 + 1 + 1 + 1 + 1, 0, none⟩) (show w.heap.size ≤ S + 1 + 1 + 1 + 1 + 1 + 1 + 1 by omega) (.int .i64 ((pl + m : Nat) : Int))
          have hK9 := (hK6.trans (KeepsFrom.ext (B := w0.heap.size) hb8)).setAt ⟨S + 1 + 1 + 1 + 1 + 1 + 1 + 1, 0, none⟩ (.int .i64 ((pl + m : Nat) : Int))
          have hF9 : Fr (fun b => b ≠ S + 1 + 1 + 1 + 1 + 1 + 1 + 1) w6 ((w7.alloc (.cells #[.int .u8 (k2.toNat : Int), str lf] 73)).setCell ⟨S + 1 + 1 + 1 + 1 + 1 + 1 + 1, 0, none⟩ (.int .i64 ((pl + m : Nat) : Int))) := (Fr.of_ext hb8).set (p := ⟨S + 1 + 1 + 1 + 1 + 1 + 1 + 1, 0, none⟩) _ (fun _ h => h rfl)
          have hin9 : LiveIn _ (S + 1 + 1 + 1 + 1 + 1 + 1 + 1 + 1 + 1) o p2 := fun j hj => ((hin6 j hj).fr hF9 (Nat.le_refl _) (fun x h1 _ => by omega)).wide (Nat.le_refl _) hF9.size
          have hz9 := hF9.size
          have hkp9 := (World.cell?_of_block (a := ⟨S + 1 + 1 + 1 + 1 + 1 + 1 + 1 + 1, 0, none⟩) (hF9.block (S + 1 + 1 + 1 + 1 + 1 + 1 + 1 + 1) (by omega) (by omega))).trans hkp6
          have hMI : MI s w S (pre ++ [⟨(pl, ⟨kd, ld⟩), hpl, hld⟩]) ((w7.alloc (.cells #[.int .u8 (k2.toNat : Int), str lf] 73)).setCell ⟨S + 1 + 1 + 1 + 1 + 1 + 1 + 1, 0, none⟩ (.int .i64 ((pl + m : Nat) : Int))) := by
            have hpn : (pre ++ [(⟨(pl, ⟨kd, ld⟩), hpl, hld⟩ : FA s)]).length = pre.length + 1 := by simp
            refine ⟨o, p2, pl + m, ?_, HF1.out, ?_, by omega, by omega, bS9, ⟨_, _, _, _, _, _, _, b19⟩, ⟨_, b29⟩, ⟨_, b39⟩, ⟨_, b49⟩, b59, ?_, b79, hin9, hX9⟩
            · rw [hpn]; exact HNX.out
            · rw [hpn]; exact HGX.out
            · rw [hpn]; exact b69
          have HMI := Lib.hid hMI
          have HK9 := Lib.hid hK9
          have HKP := Lib.hid hkp9
          clear hMI hK9 hkp9 hX9 hF9 hin9 bS9 b19 b29 b39 b49 b59 b69 b79 hX6 hK6 hin6 hkp6 hb8 bS6 b16 b26 b36 b46 b56 b66 b76 CT HNX HGX
          by_cases hend : pl + m = s.length
          · have hq : ((pl : Int) + (m : Int) == (s.length : Int)) = true := by simp; omega
            have HE := Lib.hid hend
            clear hend
            gi_wp2
            refine ⟨HK9.out, .inl ⟨rfl, HMI.out, fun rest fin h => ?_⟩⟩
            have h1 := HF1.out rest fin h
            rw [HE.out] at h1
            cases h1 with
            | stop _ _ => rfl
            | step _ f n rest fin h2 hr =>
              rw [List.drop_length] at h2
              exact absurd (congrArg (fun r => r.2.2) h2) takeFrame_nil'
          · have hq : ((pl : Int) + (m : Int) == (s.length : Int)) = false := by simp; omega
            clear hend
            gi_wp2
            exact ⟨HK9.out, ⟨Nat.le_trans hz4 (Nat.le_trans hz6 hz9), HKP.out⟩, HMI.out⟩
        · have hok : okM v (pl, ⟨kd, ld⟩) = false := by rw [HOK.out]; simp [hs]
          have hne : ((nb : Int) != 0) = true := by simp; omega
          have HF := Lib.hid (HBAD.out hok)
          clear hok HOK HBAD HN1 HG HF1 CT
          gi_wp2_with fail
          obtain ⟨w5, hw5⟩ : ∃ w5, w5 = w4.alloc (.cells #[.int .u64 o.next, .int .u64 o.seq, .int .u64 o.log, .slice (p2.A 0) (o.tab 0).length (p2.c 0), .slice (p2.A 1) (o.tab 1).length (p2.c 1), .slice (p2.A 2) (o.tab 2).length (p2.c 2), .slice (p2.A 3) (o.tab 3).length (p2.c 3)] 48) := ⟨_, rfl⟩
          rw [← hw5]
          have hE : Ext w4 w5 := by rw [hw5]; exact Ext.al _ _
          have b15 := b14.ext hE
          have b25 := b24.ext hE
          have b35 := b34.ext hE
          have b45 := b44.ext hE
          have b55 := b54.ext hE
          have b65 := b64.ext hE
          have hX5 := hX4.trans' hE
          have hK5 := hK4.trans (KeepsFrom.ext (B := w0.heap.size) hE)
          have hla5 : LiveIn w5 (S + 1 + 1 + 1 + 1 + 1 + 1 + 1 + 1 + 1) v p := fun j hj => ((hla4 j hj).below hE (Nat.le_refl _)).wide (Nat.le_refl _) hE.size
          have hz5 := hE.size
          clear hw5 hE hin5 hla4 hkp4 hX4 hK4 hb4W bS4 b14 b24 b34 b44 b54 b64 b74 bX4 y0 hl0 hl5 hl6 hl7
          have l0 := b55.cell 0
          have l1 := b55.cell 1
          have l2 := b55.cell 2
          have l3 := b55.cell 3
          have l4 := b55.cell 4
          have l5 := b55.cell 5
          have l6 := b55.cell 6
          have n0 := b65.cell 0
          have r0 := b15.cell 0
          have r1 := b15.cell 1
          have r2 := b15.cell 2
          have r3 := b15.cell 3
          have r4 := b15.cell 4
          have r5 := b15.cell 5
          have r6 := b15.cell 6
          have rf := b15.frozen
          have t2 := b25.cell 0
          have t2f := b25.frozen
          have t3 := b35.cell 0
          have t3f := b35.frozen
          have t4 := b45.cell 0
          have t4f := b45.frozen
          have hl5 := b55.lt
          have hl6 := b65.lt
          simp only [Live.cells, List.getElem?_toArray, List.getElem?_cons_zero, List.getElem?_cons_succ] at l0 l1 l2 l3 l4 l5 l6 n0 r0 r1 r2 r3 r4 r5 r6 t2 t3 t4
          have q12 : S + 1 + 1 ≠ S + 1 := by omega
          have q13 : S + 1 + 1 + 1 ≠ S + 1 := by omega
          have q14 : S + 1 + 1 + 1 + 1 ≠ S + 1 := by omega
          have q23 : S + 1 + 1 + 1 ≠ S + 1 + 1 := by omega
          have q24 : S + 1 + 1 + 1 + 1 ≠ S + 1 + 1 := by omega
          have q34 : S + 1 + 1 + 1 + 1 ≠ S + 1 + 1 + 1 := by omega
          refine wpIn_region_sch (RS ((fun x => x = S + 1 + 1 + 1 + 1 + 1 ∨ x = S + 1 + 1 + 1 + 1 + 1 + 1))) 6 [(0, true), (1, true), (2, true), (3, false), (4, false), (5, false), (6, false)] (by kernel_rfl) (by kernel_rfl) (by kernel_rfl) (fun ⟨_, _, h⟩ => h) RS.refl RS.trans (fun _ _ d _ _ h => by cases d <;> exact h) ?_
          refine wpSch_q ?_ rfl rfl (fun w' hR => ?_) ?_
          rotate_left
          · (obtain ⟨hRs, hRc⟩ := hR; (try have hRd := fun o => hRc _ o rfl (by first | (simp; done) | (simp; omega) | omega)); (try have hRe := fun o => hRc _ o (Or.inl rfl) (by first | (simp; done) | (simp; omega) | omega)); (try have hRf := fun o => hRc _ o (Or.inr rfl) (by first | (simp; done) | (simp; omega) | omega)); (try have hRg := fun o => hRc _ o (Or.inr (Or.inl rfl)) (by first | (simp; done) | (simp; omega) | omega)); (try have hRh := fun o => hRc _ o (Or.inr (Or.inr rfl)) (by first | (simp; done) | (simp; omega) | omega)); go_simp; first | rfl | rw [if_neg (by simp; omega)] | rw [if_neg (by omega)])
          (try simp only [Act.put, List.setIfInBounds_toArray, List.set_cons_zero, List.set_cons_succ])
          refine wpSch_q ?_ rfl rfl (fun w' hR => ?_) ?_
          rotate_left
          · (obtain ⟨hRs, hRc⟩ := hR; (try have hRd := fun o => hRc _ o rfl (by first | (simp; done) | (simp; omega) | omega)); (try have hRe := fun o => hRc _ o (Or.inl rfl) (by first | (simp; done) | (simp; omega) | omega)); (try have hRf := fun o => hRc _ o (Or.inr rfl) (by first | (simp; done) | (simp; omega) | omega)); (try have hRg := fun o => hRc _ o (Or.inr (Or.inl rfl)) (by first | (simp; done) | (simp; omega) | omega)); (try have hRh := fun o => hRc _ o (Or.inr (Or.inr rfl)) (by first | (simp; done) | (simp; omega) | omega)); go_simp; first | rfl | rw [if_neg (by simp; omega)] | rw [if_neg (by omega)])
          (try simp only [Act.put, List.setIfInBounds_toArray, List.set_cons_zero, List.set_cons_succ])
          refine wpSch_q ?_ rfl rfl (fun w' hR => ?_) ?_
          rotate_left
          · (go_simp; first | rfl | rw [if_neg (by simp; omega)] | rw [if_neg (by omega)])
          (try simp only [Act.put, List.setIfInBounds_toArray, List.set_cons_zero, List.set_cons_succ])
          refine wpSch_e rfl rfl (fun K hK => ?_)
          go_simp
          refine hK _ _ (fun _ => RS.put7 w5 (fun h => by omega) _ _ _ _ _ _ _) ?_
          clear hK K
          (try simp only [Act.put, List.setIfInBounds_toArray, List.set_cons_zero, List.set_cons_succ])
          skip
          refine wpSch_e rfl rfl (fun K hK => ?_)
          go_simp
          refine hK _ _ (fun _ => RS.put1 _ (fun h => by omega) _) ?_
          clear hK K
          (try simp only [Act.put, List.setIfInBounds_toArray, List.set_cons_zero, List.set_cons_succ])
          skip
          refine wpSch_e rfl rfl (fun K hK => ?_)
          go_simp
          refine hK _ _ (fun _ => RS.put1 _ (fun h => by omega) _) ?_
          clear hK K
          (try simp only [Act.put, List.setIfInBounds_toArray, List.set_cons_zero, List.set_cons_succ])
          skip
          refine wpSch_e rfl rfl (fun K hK => ?_)
          go_simp
          refine hK _ _ (fun h => absurd rfl h) ?_
          clear hK K
          (try simp only [Act.put, List.setIfInBounds_toArray, List.set_cons_zero, List.set_cons_succ])
          skip
          refine wpSch_nil ?_
          have HFx := Lib.hid ((((Fr.put7 (Fr.refl w5) (S := fun b => b ≠ S + 1 ∧ b ≠ S + 1 + 1 ∧ b ≠ S + 1 + 1 + 1 ∧ b ≠ S + 1 + 1 + 1 + 1) (g := S + 1) (fun h => h.1 rfl) (.int .u64 v.next) (.int .u64 v.seq) (.int .u64 v.log) (.slice (p.A 0) (v.tab 0).length (p.c 0)) (.slice (p.A 1) (v.tab 1).length (p.c 1)) (.slice (p.A 2) (v.tab 2).length (p.c 2)) (.slice (p.A 3) (v.tab 3).length (p.c 3))).set (p := ⟨S + 1 + 1, 0, none⟩) (.int .i64 (pre.length : Int)) (fun _ h => h.2.1 rfl)).set (p := ⟨S + 1 + 1 + 1, 0, none⟩) (.int .i64 (pl : Int)) (fun _ h => h.2.2.1 rfl)).set (p := ⟨S + 1 + 1 + 1 + 1, 0, none⟩) (.int .i64 9) (fun _ h => h.2.2.2 rfl)).drew
          have hKf := ((((hK5.put7 (S + 1) (.int .u64 v.next) (.int .u64 v.seq) (.int .u64 v.log) (.slice (p.A 0) (v.tab 0).length (p.c 0)) (.slice (p.A 1) (v.tab 1).length (p.c 1)) (.slice (p.A 2) (v.tab 2).length (p.c 2)) (.slice (p.A 3) (v.tab 3).length (p.c 3))).setAt ⟨S + 1 + 1, 0, none⟩ (.int .i64 (pre.length : Int))).setAt ⟨S + 1 + 1 + 1, 0, none⟩ (.int .i64 (pl : Int))).setAt ⟨S + 1 + 1 + 1 + 1, 0, none⟩ (.int .i64 9)).drew
          have hMX : MX s w S .ret (pre ++ [⟨(pl, ⟨kd, ld⟩), hpl, hld⟩]) _ := .inr ⟨rfl, v, p, pre.length, pl, HF.out, hgd, by simp,
            ((((b15.put7 (.int .u64 v.next) (.int .u64 v.seq) (.int .u64 v.log) (.slice (p.A 0) (v.tab 0).length (p.c 0)) (.slice (p.A 1) (v.tab 1).length (p.c 1)) (.slice (p.A 2) (v.tab 2).length (p.c 2)) (.slice (p.A 3) (v.tab 3).length (p.c 3))).far (p := ⟨S + 1 + 1, 0, none⟩) q12.symm (.int .i64 (pre.length : Int))).far (p := ⟨S + 1 + 1 + 1, 0, none⟩) q13.symm (.int .i64 (pl : Int))).far (p := ⟨S + 1 + 1 + 1 + 1, 0, none⟩) q14.symm (.int .i64 9)).drew,
            (by have h := (((((b25.far7 (g' := S + 1) q12 (.int .u64 v.next) (.int .u64 v.seq) (.int .u64 v.log) (.slice (p.A 0) (v.tab 0).length (p.c 0)) (.slice (p.A 1) (v.tab 1).length (p.c 1)) (.slice (p.A 2) (v.tab 2).length (p.c 2)) (.slice (p.A 3) (v.tab 3).length (p.c 3))).put 0 (.int .i64 (pre.length : Int))).far (p := ⟨S + 1 + 1 + 1, 0, none⟩) q23.symm (.int .i64 (pl : Int))).far (p := ⟨S + 1 + 1 + 1 + 1, 0, none⟩) q24.symm (.int .i64 9))).drew
                simpa only [List.setIfInBounds_toArray, List.set_cons_zero] using h),
            (by have h := (((((b35.far7 (g' := S + 1) q13 (.int .u64 v.next) (.int .u64 v.seq) (.int .u64 v.log) (.slice (p.A 0) (v.tab 0).length (p.c 0)) (.slice (p.A 1) (v.tab 1).length (p.c 1)) (.slice (p.A 2) (v.tab 2).length (p.c 2)) (.slice (p.A 3) (v.tab 3).length (p.c 3))).far (p := ⟨S + 1 + 1, 0, none⟩) q23 (.int .i64 (pre.length : Int))).put 0 (.int .i64 (pl : Int))).far (p := ⟨S + 1 + 1 + 1 + 1, 0, none⟩) q34.symm (.int .i64 9))).drew
                simpa only [List.setIfInBounds_toArray, List.set_cons_zero] using h),
            (by have h := (((((b45.far7 (g' := S + 1) q14 (.int .u64 v.next) (.int .u64 v.seq) (.int .u64 v.log) (.slice (p.A 0) (v.tab 0).length (p.c 0)) (.slice (p.A 1) (v.tab 1).length (p.c 1)) (.slice (p.A 2) (v.tab 2).length (p.c 2)) (.slice (p.A 3) (v.tab 3).length (p.c 3))).far (p := ⟨S + 1 + 1, 0, none⟩) q24 (.int .i64 (pre.length : Int))).far (p := ⟨S + 1 + 1 + 1, 0, none⟩) q34 (.int .i64 (pl : Int))).put 0 (.int .i64 9))).drew
                simpa only [List.setIfInBounds_toArray, List.set_cons_zero] using h),
            fun j hj => ((hla5 j hj).fr HFx.out (Nat.le_refl _) (fun x h1 _ => by omega)).wide (Nat.le_refl _) HFx.out.size,
            ((((Below.put7 hX5 (by omega) _ _ _ _ _ _ _).setCell (p := ⟨S + 1 + 1, 0, none⟩) (show w.heap.size ≤ S + 1 + 1 by omega) _).setCell (p := ⟨S + 1 + 1 + 1, 0, none⟩) (show w.heap.size ≤ S + 1 + 1 + 1 by omega) _).setCell (p := ⟨S + 1 + 1 + 1 + 1, 0, none⟩) (show w.heap.size ≤ S + 1 + 1 + 1 + 1 by omega) _).trans' (Ext.dr _)⟩
          have HMX := Lib.hid hMX
          have HKF := Lib.hid hKf
          clear hMX hKf l0 l1 l2 l3 l4 l5 l6 n0 r0 r1 r2 r3 r4 r5 r6 rf t2 t2f t3 t3f t4 t4f q12 q13 q14 q23 q24 q34 hne
          gi_wp2
          exact ⟨HKF.out, HMX.out⟩
      · have hok : okM v (pl, ⟨kd, ld⟩) = false := by rw [HOK.out]; simp [hn]
        have hne : ((no : Int) != 0) = true := by simp; omega
        have HF := Lib.hid (HBAD.out hok)
        clear hok HOK HBAD HN1 HG HF1 CT
        gi_wp2_with fail
        obtain ⟨w5, hw5⟩ : ∃ w5, w5 = w4.alloc (.cells #[.int .u64 o.next, .int .u64 o.seq, .int .u64 o.log, .slice (p2.A 0) (o.tab 0).length (p2.c 0), .slice (p2.A 1) (o.tab 1).length (p2.c 1), .slice (p2.A 2) (o.tab 2).length (p2.c 2), .slice (p2.A 3) (o.tab 3).length (p2.c 3)] 48) := ⟨_, rfl⟩
        rw [← hw5]
        have hE : Ext w4 w5 := by rw [hw5]; exact Ext.al _ _
        have b15 := b14.ext hE
        have b25 := b24.ext hE
        have b35 := b34.ext hE
        have b45 := b44.ext hE
        have b55 := b54.ext hE
        have b65 := b64.ext hE
        have hX5 := hX4.trans' hE
        have hK5 := hK4.trans (KeepsFrom.ext (B := w0.heap.size) hE)
        have hla5 : LiveIn w5 (S + 1 + 1 + 1 + 1 + 1 + 1 + 1 + 1 + 1) v p := fun j hj => ((hla4 j hj).below hE (Nat.le_refl _)).wide (Nat.le_refl _) hE.size
        have hz5 := hE.size
        clear hw5 hE hin5 hla4 hkp4 hX4 hK4 hb4W bS4 b14 b24 b34 b44 b54 b64 b74 bX4 y0 hl0 hl5 hl6 hl7
        have l0 := b55.cell 0
        have l1 := b55.cell 1
        have l2 := b55.cell 2
        have l3 := b55.cell 3
        have l4 := b55.cell 4
        have l5 := b55.cell 5
        have l6 := b55.cell 6
        have n0 := b65.cell 0
        have r0 := b15.cell 0
        have r1 := b15.cell 1
        have r2 := b15.cell 2
        have r3 := b15.cell 3
        have r4 := b15.cell 4
        have r5 := b15.cell 5
        have r6 := b15.cell 6
        have rf := b15.frozen
        have t2 := b25.cell 0
        have t2f := b25.frozen
        have t3 := b35.cell 0
        have t3f := b35.frozen
        have t4 := b45.cell 0
        have t4f := b45.frozen
        have hl5 := b55.lt
        have hl6 := b65.lt
        simp only [Live.cells, List.getElem?_toArray, List.getElem?_cons_zero, List.getElem?_cons_succ] at l0 l1 l2 l3 l4 l5 l6 n0 r0 r1 r2 r3 r4 r5 r6 t2 t3 t4
        have q12 : S + 1 + 1 ≠ S + 1 := by omega
        have q13 : S + 1 + 1 + 1 ≠ S + 1 := by omega
        have q14 : S + 1 + 1 + 1 + 1 ≠ S + 1 := by omega
        have q23 : S + 1 + 1 + 1 ≠ S + 1 + 1 := by omega
        have q24 : S + 1 + 1 + 1 + 1 ≠ S + 1 + 1 := by omega
        have q34 : S + 1 + 1 + 1 + 1 ≠ S + 1 + 1 + 1 := by omega
        refine wpIn_region_sch (RS ((fun x => x = S + 1 + 1 + 1 + 1 + 1 ∨ x = S + 1 + 1 + 1 + 1 + 1 + 1))) 6 [(0, true), (1, true), (2, true), (3, false), (4, false), (5, false), (6, false)] (by kernel_rfl) (by kernel_rfl) (by kernel_rfl) (fun ⟨_, _, h⟩ => h) RS.refl RS.trans (fun _ _ d _ _ h => by cases d <;> exact h) ?_
        refine wpSch_q ?_ rfl rfl (fun w' hR => ?_) ?_
        rotate_left
        · (obtain ⟨hRs, hRc⟩ := hR; (try have hRd := fun o => hRc _ o rfl (by first | (simp; done) | (simp; omega) | omega)); (try have hRe := fun o => hRc _ o (Or.inl rfl) (by first | (simp; done) | (simp; omega) | omega)); (try have hRf := fun o => hRc _ o (Or.inr rfl) (by first | (simp; done) | (simp; omega) | omega)); (try have hRg := fun o => hRc _ o (Or.inr (Or.inl rfl)) (by first | (simp; done) | (simp; omega) | omega)); (try have hRh := fun o => hRc _ o (Or.inr (Or.inr rfl)) (by first | (simp; done) | (simp; omega) | omega)); go_simp; first | rfl | rw [if_neg (by simp; omega)] | rw [if_neg (by omega)])
        (try simp only [Act.put, List.setIfInBounds_toArray, List.set_cons_zero, List.set_cons_succ])
        refine wpSch_q ?_ rfl rfl (fun w' hR => ?_) ?_
        rotate_left
        · (obtain ⟨hRs, hRc⟩ := hR; (try have hRd := fun o => hRc _ o rfl (by first | (simp; done) | (simp; omega) | omega)); (try have hRe := fun o => hRc _ o (Or.inl rfl) (by first | (simp; done) | (simp; omega) | omega)); (try have hRf := fun o => hRc _ o (Or.inr rfl) (by first | (simp; done) | (simp; omega) | omega)); (try have hRg := fun o => hRc _ o (Or.inr (Or.inl rfl)) (by first | (simp; done) | (simp; omega) | omega)); (try have hRh := fun o => hRc _ o (Or.inr (Or.inr rfl)) (by first | (simp; done) | (simp; omega) | omega)); go_simp; first | rfl | rw [if_neg (by simp; omega)] | rw [if_neg (by omega)])
        (try simp only [Act.put, List.setIfInBounds_toArray, List.set_cons_zero, List.set_cons_succ])
        refine wpSch_q ?_ rfl rfl (fun w' hR => ?_) ?_
        rotate_left
        · (go_simp; first | rfl | rw [if_neg (by simp; omega)] | rw [if_neg (by omega)])
        (try simp only [Act.put, List.setIfInBounds_toArray, List.set_cons_zero, List.set_cons_succ])
        refine wpSch_e rfl rfl (fun K hK => ?_)
        go_simp
        refine hK _ _ (fun _ => RS.put7 w5 (fun h => by omega) _ _ _ _ _ _ _) ?_
        clear hK K
        (try simp only [Act.put, List.setIfInBounds_toArray, List.set_cons_zero, List.set_cons_succ])
        skip
        refine wpSch_e rfl rfl (fun K hK => ?_)
        go_simp
        refine hK _ _ (fun _ => RS.put1 _ (fun h => by omega) _) ?_
        clear hK K
        (try simp only [Act.put, List.setIfInBounds_toArray, List.set_cons_zero, List.set_cons_succ])
        skip
        refine wpSch_e rfl rfl (fun K hK => ?_)
        go_simp
        refine hK _ _ (fun _ => RS.put1 _ (fun h => by omega) _) ?_
        clear hK K
        (try simp only [Act.put, List.setIfInBounds_toArray, List.set_cons_zero, List.set_cons_succ])
        skip
        refine wpSch_e rfl rfl (fun K hK => ?_)
        go_simp
        refine hK _ _ (fun h => absurd rfl h) ?_
        clear hK K
        (try simp only [Act.put, List.setIfInBounds_toArray, List.set_cons_zero, List.set_cons_succ])
        skip
        refine wpSch_nil ?_
        have HFx := Lib.hid ((((Fr.put7 (Fr.refl w5) (S := fun b => b ≠ S + 1 ∧ b ≠ S + 1 + 1 ∧ b ≠ S + 1 + 1 + 1 ∧ b ≠ S + 1 + 1 + 1 + 1) (g := S + 1) (fun h => h.1 rfl) (.int .u64 v.next) (.int .u64 v.seq) (.int .u64 v.log) (.slice (p.A 0) (v.tab 0).length (p.c 0)) (.slice (p.A 1) (v.tab 1).length (p.c 1)) (.slice (p.A 2) (v.tab 2).length (p.c 2)) (.slice (p.A 3) (v.tab 3).length (p.c 3))).set (p := ⟨S + 1 + 1, 0, none⟩) (.int .i64 (pre.length : Int)) (fun _ h => h.2.1 rfl)).set (p := ⟨S + 1 + 1 + 1, 0, none⟩) (.int .i64 (pl : Int)) (fun _ h => h.2.2.1 rfl)).set (p := ⟨S + 1 + 1 + 1 + 1, 0, none⟩) (.int .i64 9) (fun _ h => h.2.2.2 rfl)).drew
        have hKf := ((((hK5.put7 (S + 1) (.int .u64 v.next) (.int .u64 v.seq) (.int .u64 v.log) (.slice (p.A 0) (v.tab 0).length (p.c 0)) (.slice (p.A 1) (v.tab 1).length (p.c 1)) (.slice (p.A 2) (v.tab 2).length (p.c 2)) (.slice (p.A 3) (v.tab 3).length (p.c 3))).setAt ⟨S + 1 + 1, 0, none⟩ (.int .i64 (pre.length : Int))).setAt ⟨S + 1 + 1 + 1, 0, none⟩ (.int .i64 (pl : Int))).setAt ⟨S + 1 + 1 + 1 + 1, 0, none⟩ (.int .i64 9)).drew
        have hMX : MX s w S .ret (pre ++ [⟨(pl, ⟨kd, ld⟩), hpl, hld⟩]) _ := .inr ⟨rfl, v, p, pre.length, pl, HF.out, hgd, by simp,
          ((((b15.put7 (.int .u64 v.next) (.int .u64 v.seq) (.int .u64 v.log) (.slice (p.A 0) (v.tab 0).length (p.c 0)) (.slice (p.A 1) (v.tab 1).length (p.c 1)) (.slice (p.A 2) (v.tab 2).length (p.c 2)) (.slice (p.A 3) (v.tab 3).length (p.c 3))).far (p := ⟨S + 1 + 1, 0, none⟩) q12.symm (.int .i64 (pre.length : Int))).far (p := ⟨S + 1 + 1 + 1, 0, none⟩) q13.symm (.int .i64 (pl : Int))).far (p := ⟨S + 1 + 1 + 1 + 1, 0, none⟩) q14.symm (.int .i64 9)).drew,
          (by have h := (((((b25.far7 (g' := S + 1) q12 (.int .u64 v.next) (.int .u64 v.seq) (.int .u64 v.log) (.slice (p.A 0) (v.tab 0).length (p.c 0)) (.slice (p.A 1) (v.tab 1).length (p.c 1)) (.slice (p.A 2) (v.tab 2).length (p.c 2)) (.slice (p.A 3) (v.tab 3).length (p.c 3))).put 0 (.int .i64 (pre.length : Int))).far (p := ⟨S + 1 + 1 + 1, 0, none⟩) q23.symm (.int .i64 (pl : Int))).far (p := ⟨S + 1 + 1 + 1 + 1, 0, none⟩) q24.symm (.int .i64 9))).drew
              simpa only [List.setIfInBounds_toArray, List.set_cons_zero] using h),
          (by have h := (((((b35.far7 (g' := S + 1) q13 (.int .u64 v.next) (.int .u64 v.seq) (.int .u64 v.log) (.slice (p.A 0) (v.tab 0).length (p.c 0)) (.slice (p.A 1) (v.tab 1).length (p.c 1)) (.slice (p.A 2) (v.tab 2).length (p.c 2)) (.slice (p.A 3) (v.tab 3).length (p.c 3))).far (p := ⟨S + 1 + 1, 0, none⟩) q23 (.int .i64 (pre.length : Int))).put 0 (.int .i64 (pl : Int))).far (p := ⟨S + 1 + 1 + 1 + 1, 0, none⟩) q34.symm (.int .i64 9))).drew
              simpa only [List.setIfInBounds_toArray, List.set_cons_zero] using h),
          (by have h := (((((b45.far7 (g' := S + 1) q14 (.int .u64 v.next) (.int .u64 v.seq) (.int .u64 v.log) (.slice (p.A 0) (v.tab 0).length (p.c 0)) (.slice (p.A 1) (v.tab 1).length (p.c 1)) (.slice (p.A 2) (v.tab 2).length (p.c 2)) (.slice (p.A 3) (v.tab 3).length (p.c 3))).far (p := ⟨S + 1 + 1, 0, none⟩) q24 (.int .i64 (pre.length : Int))).far (p := ⟨S + 1 + 1 + 1, 0, none⟩) q34 (.int .i64 (pl : Int))).put 0 (.int .i64 9))).drew
              simpa only [List.setIfInBounds_toArray, List.set_cons_zero] using h),
          fun j hj => ((hla5 j hj).fr HFx.out (Nat.le_refl _) (fun x h1 _ => by omega)).wide (Nat.le_refl _) HFx.out.size,
          ((((Below.put7 hX5 (by omega) _ _ _ _ _ _ _).setCell (p := ⟨S + 1 + 1, 0, none⟩) (show w.heap.size ≤ S + 1 + 1 by omega) _).setCell (p := ⟨S + 1 + 1 + 1, 0, none⟩) (show w.heap.size ≤ S + 1 + 1 + 1 by omega) _).setCell (p := ⟨S + 1 + 1 + 1 + 1, 0, none⟩) (show w.heap.size ≤ S + 1 + 1 + 1 + 1 by omega) _).trans' (Ext.dr _)⟩
        have HMX := Lib.hid hMX
        have HKF := Lib.hid hKf
        clear hMX hKf l0 l1 l2 l3 l4 l5 l6 n0 r0 r1 r2 r3 r4 r5 r6 rf t2 t2f t3 t3f t4 t4f q12 q13 q14 q23 q24 q34 hne
        gi_wp2
        exact ⟨HKF.out, HMX.out⟩
    · have hok : okM v (pl, ⟨kd, ld⟩) = false := by rw [HOK.out]; simp [hk]
      have hne : ((kn : Int) != 7) = true := by simp; omega
      have HF := Lib.hid (HBAD.out hok)
      clear hok HOK HBAD HN1 HG HF1 CT
      gi_wp2_with fail
      obtain ⟨w5, hw5⟩ : ∃ w5, w5 = w4.alloc (.cells #[.int .u64 o.next, .int .u64 o.seq, .int .u64 o.log, .slice (p2.A 0) (o.tab 0).length (p2.c 0), .slice (p2.A 1) (o.tab 1).length (p2.c 1), .slice (p2.A 2) (o.tab 2).length (p2.c 2), .slice (p2.A 3) (o.tab 3).length (p2.c 3)] 48) := ⟨_, rfl⟩
      rw [← hw5]
      have hE : Ext w4 w5 := by rw [hw5]; exact Ext.al _ _
      have b15 := b14.ext hE
      have b25 := b24.ext hE
      have b35 := b34.ext hE
      have b45 := b44.ext hE
      have b55 := b54.ext hE
      have b65 := b64.ext hE
      have hX5 := hX4.trans' hE
      have hK5 := hK4.trans (KeepsFrom.ext (B := w0.heap.size) hE)
      have hla5 : LiveIn w5 (S + 1 + 1 + 1 + 1 + 1 + 1 + 1 + 1 + 1) v p := fun j hj => ((hla4 j hj).below hE (Nat.le_refl _)).wide (Nat.le_refl _) hE.size
      have hz5 := hE.size
      clear hw5 hE hin5 hla4 hkp4 hX4 hK4 hb4W bS4 b14 b24 b34 b44 b54 b64 b74 bX4 y0 hl0 hl5 hl6 hl7
      have l0 := b55.cell 0
      have l1 := b55.cell 1
      have l2 := b55.cell 2
      have l3 := b55.cell 3
      have l4 := b55.cell 4
      have l5 := b55.cell 5
      have l6 := b55.cell 6
      have n0 := b65.cell 0
      have r0 := b15.cell 0
      have r1 := b15.cell 1
      have r2 := b15.cell 2
      have r3 := b15.cell 3
      have r4 := b15.cell 4
      have r5 := b15.cell 5
      have r6 := b15.cell 6
      have rf := b15.frozen
      have t2 := b25.cell 0
      have t2f := b25.frozen
      have t3 := b35.cell 0
      have t3f := b35.frozen
      have t4 := b45.cell 0
      have t4f := b45.frozen
      have hl5 := b55.lt
      have hl6 := b65.lt
      simp only [Live.cells, List.getElem?_toArray, List.getElem?_cons_zero, List.getElem?_cons_succ] at l0 l1 l2 l3 l4 l5 l6 n0 r0 r1 r2 r3 r4 r5 r6 t2 t3 t4
      have q12 : S + 1 + 1 ≠ S + 1 := by omega
      have q13 : S + 1 + 1 + 1 ≠ S + 1 := by omega
      have q14 : S + 1 + 1 + 1 + 1 ≠ S + 1 := by omega
      have q23 : S + 1 + 1 + 1 ≠ S + 1 + 1 := by omega
      have q24 : S + 1 + 1 + 1 + 1 ≠ S + 1 + 1 := by omega
      have q34 : S + 1 + 1 + 1 + 1 ≠ S + 1 + 1 + 1 := by omega
      refine wpIn_region_sch (RS ((fun x => x = S + 1 + 1 + 1 + 1 + 1 ∨ x = S + 1 + 1 + 1 + 1 + 1 + 1))) 6 [(0, true), (1, true), (2, true), (3, false), (4, false), (5, false), (6, false)] (by kernel_rfl) (by kernel_rfl) (by kernel_rfl) (fun ⟨_, _, h⟩ => h) RS.refl RS.trans (fun _ _ d _ _ h => by cases d <;> exact h) ?_
      refine wpSch_q ?_ rfl rfl (fun w' hR => ?_) ?_
      rotate_left
      · (obtain ⟨hRs, hRc⟩ := hR; (try have hRd := fun o => hRc _ o rfl (by first | (simp; done) | (simp; omega) | omega)); (try have hRe := fun o => hRc _ o (Or.inl rfl) (by first | (simp; done) | (simp; omega) | omega)); (try have hRf := fun o => hRc _ o (Or.inr rfl) (by first | (simp; done) | (simp; omega) | omega)); (try have hRg := fun o => hRc _ o (Or.inr (Or.inl rfl)) (by first | (simp; done) | (simp; omega) | omega)); (try have hRh := fun o => hRc _ o (Or.inr (Or.inr rfl)) (by first | (simp; done) | (simp; omega) | omega)); go_simp; first | rfl | rw [if_neg (by simp; omega)] | rw [if_neg (by omega)])
      (try simp only [Act.put, List.setIfInBounds_toArray, List.set_cons_zero, List.set_cons_succ])
      refine wpSch_q ?_ rfl rfl (fun w' hR => ?_) ?_
      rotate_left
      · (obtain ⟨hRs, hRc⟩ := hR; (try have hRd := fun o => hRc _ o rfl (by first | (simp; done) | (simp; omega) | omega)); (try have hRe := fun o => hRc _ o (Or.inl rfl) (by first | (simp; done) | (simp; omega) | omega)); (try have hRf := fun o => hRc _ o (Or.inr rfl) (by first | (simp; done) | (simp; omega) | omega)); (try have hRg := fun o => hRc _ o (Or.inr (Or.inl rfl)) (by first | (simp; done) | (simp; omega) | omega)); (try have hRh := fun o => hRc _ o (Or.inr (Or.inr rfl)) (by first | (simp; done) | (simp; omega) | omega)); go_simp; first | rfl | rw [if_neg (by simp; omega)] | rw [if_neg (by omega)])
      (try simp only [Act.put, List.setIfInBounds_toArray, List.set_cons_zero, List.set_cons_succ])
      refine wpSch_q ?_ rfl rfl (fun w' hR => ?_) ?_
      rotate_left
      · (go_simp; first | rfl | rw [if_neg (by simp; omega)] | rw [if_neg (by omega)])
      (try simp only [Act.put, List.setIfInBounds_toArray, List.set_cons_zero, List.set_cons_succ])
      refine wpSch_e rfl rfl (fun K hK => ?_)
      go_simp
      refine hK _ _ (fun _ => RS.put7 w5 (fun h => by omega) _ _ _ _ _ _ _) ?_
      clear hK K
      (try simp only [Act.put, List.setIfInBounds_toArray, List.set_cons_zero, List.set_cons_succ])
      skip
      refine wpSch_e rfl rfl (fun K hK => ?_)
      go_simp
      refine hK _ _ (fun _ => RS.put1 _ (fun h => by omega) _) ?_
      clear hK K
      (try simp only [Act.put, List.setIfInBounds_toArray, List.set_cons_zero, List.set_cons_succ])
      skip
      refine wpSch_e rfl rfl (fun K hK => ?_)
      go_simp
      refine hK _ _ (fun _ => RS.put1 _ (fun h => by omega) _) ?_
      clear hK K
      (try simp only [Act.put, List.setIfInBounds_toArray, List.set_cons_zero, List.set_cons_succ])
      skip
      refine wpSch_e rfl rfl (fun K hK => ?_)
      go_simp
      refine hK _ _ (fun h => absurd rfl h) ?_
      clear hK K
      (try simp only [Act.put, List.setIfInBounds_toArray, List.set_cons_zero, List.set_cons_succ])
      skip
      refine wpSch_nil ?_
      have HFx := Lib.hid ((((Fr.put7 (Fr.refl w5) (S := fun b => b ≠ S + 1 ∧ b ≠ S + 1 + 1 ∧ b ≠ S + 1 + 1 + 1 ∧ b ≠ S + 1 + 1 + 1 + 1) (g := S + 1) (fun h => h.1 rfl) (.int .u64 v.next) (.int .u64 v.seq) (.int .u64 v.log) (.slice (p.A 0) (v.tab 0).length (p.c 0)) (.slice (p.A 1) (v.tab 1).length (p.c 1)) (.slice (p.A 2) (v.tab 2).length (p.c 2)) (.slice (p.A 3) (v.tab 3).length (p.c 3))).set (p := ⟨S + 1 + 1, 0, none⟩) (.int .i64 (pre.length : Int)) (fun _ h => h.2.1 rfl)).set (p := ⟨S + 1 + 1 + 1, 0, none⟩) (.int .i64 (pl : Int)) (fun _ h => h.2.2.1 rfl)).set (p := ⟨S + 1 + 1 + 1 + 1, 0, none⟩) (.int .i64 9) (fun _ h => h.2.2.2 rfl)).drew
      have hKf := ((((hK5.put7 (S + 1) (.int .u64 v.next) (.int .u64 v.seq) (.int .u64 v.log) (.slice (p.A 0) (v.tab 0).length (p.c 0)) (.slice (p.A 1) (v.tab 1).length (p.c 1)) (.slice (p.A 2) (v.tab 2).length (p.c 2)) (.slice (p.A 3) (v.tab 3).length (p.c 3))).setAt ⟨S + 1 + 1, 0, none⟩ (.int .i64 (pre.length : Int))).setAt ⟨S + 1 + 1 + 1, 0, none⟩ (.int .i64 (pl : Int))).setAt ⟨S + 1 + 1 + 1 + 1, 0, none⟩ (.int .i64 9)).drew
      have hMX : MX s w S .ret (pre ++ [⟨(pl, ⟨kd, ld⟩), hpl, hld⟩]) _ := .inr ⟨rfl, v, p, pre.length, pl, HF.out, hgd, by simp,
        ((((b15.put7 (.int .u64 v.next) (.int .u64 v.seq) (.int .u64 v.log) (.slice (p.A 0) (v.tab 0).length (p.c 0)) (.slice (p.A 1) (v.tab 1).length (p.c 1)) (.slice (p.A 2) (v.tab 2).length (p.c 2)) (.slice (p.A 3) (v.tab 3).length (p.c 3))).far (p := ⟨S + 1 + 1, 0, none⟩) q12.symm (.int .i64 (pre.length : Int))).far (p := ⟨S + 1 + 1 + 1, 0, none⟩) q13.symm (.int .i64 (pl : Int))).far (p := ⟨S + 1 + 1 + 1 + 1, 0, none⟩) q14.symm (.int .i64 9)).drew,
        (by have h := (((((b25.far7 (g' := S + 1) q12 (.int .u64 v.next) (.int .u64 v.seq) (.int .u64 v.log) (.slice (p.A 0) (v.tab 0).length (p.c 0)) (.slice (p.A 1) (v.tab 1).length (p.c 1)) (.slice (p.A 2) (v.tab 2).length (p.c 2)) (.slice (p.A 3) (v.tab 3).length (p.c 3))).put 0 (.int .i64 (pre.length : Int))).far (p := ⟨S + 1 + 1 + 1, 0, none⟩) q23.symm (.int .i64 (pl : Int))).far (p := ⟨S + 1 + 1 + 1 + 1, 0, none⟩) q24.symm (.int .i64 9))).drew
            simpa only [List.setIfInBounds_toArray, List.set_cons_zero] using h),
        (by have h := (((((b35.far7 (g' := S + 1) q13 (.int .u64 v.next) (.int .u64 v.seq) (.int .u64 v.log) (.slice (p.A 0) (v.tab 0).length (p.c 0)) (.slice (p.A 1) (v.tab 1).length (p.c 1)) (.slice (p.A 2) (v.tab 2).length (p.c 2)) (.slice (p.A 3) (v.tab 3).length (p.c 3))).far (p := ⟨S + 1 + 1, 0, none⟩) q23 (.int .i64 (pre.length : Int))).put 0 (.int .i64 (pl : Int))).far (p := ⟨S + 1 + 1 + 1 + 1, 0, none⟩) q34.symm (.int .i64 9))).drew
            simpa only [List.setIfInBounds_toArray, List.set_cons_zero] using h),
        (by have h := (((((b45.far7 (g' := S + 1) q14 (.int .u64 v.next) (.int .u64 v.seq) (.int .u64 v.log) (.slice (p.A 0) (v.tab 0).length (p.c 0)) (.slice (p.A 1) (v.tab 1).length (p.c 1)) (.slice (p.A 2) (v.tab 2).length (p.c 2)) (.slice (p.A 3) (v.tab 3).length (p.c 3))).far (p := ⟨S + 1 + 1, 0, none⟩) q24 (.int .i64 (pre.length : Int))).far (p := ⟨S + 1 + 1 + 1, 0, none⟩) q34 (.int .i64 (pl : Int))).put 0 (.int .i64 9))).drew
            simpa only [List.setIfInBounds_toArray, List.set_cons_zero] using h),
        fun j hj => ((hla5 j hj).fr HFx.out (Nat.le_refl _) (fun x h1 _ => by omega)).wide (Nat.le_refl _) HFx.out.size,
        ((((Below.put7 hX5 (by omega) _ _ _ _ _ _ _).setCell (p := ⟨S + 1 + 1, 0, none⟩) (show w.heap.size ≤ S + 1 + 1 by omega) _).setCell (p := ⟨S + 1 + 1 + 1, 0, none⟩) (show w.heap.size ≤ S + 1 + 1 + 1 by omega) _).setCell (p := ⟨S + 1 + 1 + 1 + 1, 0, none⟩) (show w.heap.size ≤ S + 1 + 1 + 1 + 1 by omega) _).trans' (Ext.dr _)⟩
      have HMX := Lib.hid hMX
      have HKF := Lib.hid hKf
      clear hMX hKf l0 l1 l2 l3 l4 l5 l6 n0 r0 r1 r2 r3 r4 r5 r6 rf t2 t2f t3 t3f t4 t4f q12 q13 q14 q23 q24 q34 hne
      gi_wp2
      exact ⟨HKF.out, HMX.out⟩
  case done =>
    rintro D ys W hD ⟨fin, hfr⟩ ⟨v, p, en, hH, hHF, hgd, hen, hz, bS, ⟨u0, u1, u2, u3, u4, u5, u6, b1⟩, ⟨x2, b2⟩, ⟨x3, b3⟩, ⟨x4, b4⟩, b5, b6, b7, hla, hX⟩ hK
    have hW : runM s (noLive, 0, 0) (faVals ys) = (v, ys.length, en, 0) := by
      have h := hH.out []
      rw [List.append_nil] at h
      rw [h]; rfl
    rw [runM_eq hfr] at hW
    have hlen := hfr.le (Nat.zero_le _)
    have hys : ys.length ≤ s.length := by have h1 := hlen.2.1; have h2 := hlen.1; simp [faVals] at h1; omega
    have hB : ∀ j, j < 4 → (v.tab j).length ≤ 1000 * s.length := fun j hj => by have := hgd.out.len j hj; omega
    have hFR := Lib.hid hfr
    obtain ⟨K, hKK⟩ : ∃ K, ys.length = K := ⟨_, rfl⟩
    rw [hKK] at hW b6
    have HW := Lib.hid hW
    clear hW hlen hfr hH hHF hKK hys bS
    have l0 := b5.cell 0
    have l1 := b5.cell 1
    have l2 := b5.cell 2
    have l3 := b5.cell 3
    have l4 := b5.cell 4
    have l5 := b5.cell 5
    have l6 := b5.cell 6
    have n0 := b6.cell 0
    have e0 := b7.cell 0
    have r0 := b1.cell 0
    have r1 := b1.cell 1
    have r2 := b1.cell 2
    have r3 := b1.cell 3
    have r4 := b1.cell 4
    have r5 := b1.cell 5
    have r6 := b1.cell 6
    have rf := b1.frozen
    have t2 := b2.cell 0
    have t2f := b2.frozen
    have t3 := b3.cell 0
    have t3f := b3.frozen
    have t4 := b4.cell 0
    have t4f := b4.frozen
    have hl5 := b5.lt
    have hl6 := b6.lt
    have hl7 := b7.lt
    simp only [Live.cells, List.getElem?_toArray, List.getElem?_cons_zero, List.getElem?_cons_succ] at l0 l1 l2 l3 l4 l5 l6 n0 e0 r0 r1 r2 r3 r4 r5 r6 t2 t3 t4
    have q12 : S + 1 + 1 ≠ S + 1 := by omega
    have q13 : S + 1 + 1 + 1 ≠ S + 1 := by omega
    have q14 : S + 1 + 1 + 1 + 1 ≠ S + 1 := by omega
    have q23 : S + 1 + 1 + 1 ≠ S + 1 + 1 := by omega
    have q24 : S + 1 + 1 + 1 + 1 ≠ S + 1 + 1 := by omega
    have q34 : S + 1 + 1 + 1 + 1 ≠ S + 1 + 1 + 1 := by omega
    gi_wp2
    refine wpIn_wide.2 ?_
    refine wp_region_sch0 (RS ((fun x => x = S + 1 + 1 + 1 + 1 + 1 ∨ x = S + 1 + 1 + 1 + 1 + 1 + 1 ∨ x = S + 1 + 1 + 1 + 1 + 1 + 1 + 1))) 6 [(0, true), (1, true), (2, true), (3, false), (4, false), (5, false), (6, false)] (by kernel_rfl) (by kernel_rfl) RS.refl RS.trans ?_
    refine wpSch_q ?_ rfl rfl (fun w' hR => ?_) ?_
    rotate_left
    · (obtain ⟨hRs, hRc⟩ := hR; (try have hRd := fun o => hRc _ o rfl (by first | (simp; done) | (simp; omega) | omega)); (try have hRe := fun o => hRc _ o (Or.inl rfl) (by first | (simp; done) | (simp; omega) | omega)); (try have hRf := fun o => hRc _ o (Or.inr rfl) (by first | (simp; done) | (simp; omega) | omega)); (try have hRg := fun o => hRc _ o (Or.inr (Or.inl rfl)) (by first | (simp; done) | (simp; omega) | omega)); (try have hRh := fun o => hRc _ o (Or.inr (Or.inr rfl)) (by first | (simp; done) | (simp; omega) | omega)); go_simp; first | rfl | rw [if_neg (by simp; omega)] | rw [if_neg (by omega)])
    (try simp only [Act.put, List.setIfInBounds_toArray, List.set_cons_zero, List.set_cons_succ])
    refine wpSch_q ?_ rfl rfl (fun w' hR => ?_) ?_
    rotate_left
    · (obtain ⟨hRs, hRc⟩ := hR; (try have hRd := fun o => hRc _ o rfl (by first | (simp; done) | (simp; omega) | omega)); (try have hRe := fun o => hRc _ o (Or.inl rfl) (by first | (simp; done) | (simp; omega) | omega)); (try have hRf := fun o => hRc _ o (Or.inr rfl) (by first | (simp; done) | (simp; omega) | omega)); (try have hRg := fun o => hRc _ o (Or.inr (Or.inl rfl)) (by first | (simp; done) | (simp; omega) | omega)); (try have hRh := fun o => hRc _ o (Or.inr (Or.inr rfl)) (by first | (simp; done) | (simp; omega) | omega)); go_simp; first | rfl | rw [if_neg (by simp; omega)] | rw [if_neg (by omega)])
    (try simp only [Act.put, List.setIfInBounds_toArray, List.set_cons_zero, List.set_cons_succ])
    refine wpSch_q ?_ rfl rfl (fun w' hR => ?_) ?_
    rotate_left
    · (obtain ⟨hRs, hRc⟩ := hR; (try have hRd := fun o => hRc _ o rfl (by first | (simp; done) | (simp; omega) | omega)); (try have hRe := fun o => hRc _ o (Or.inl rfl) (by first | (simp; done) | (simp; omega) | omega)); (try have hRf := fun o => hRc _ o (Or.inr rfl) (by first | (simp; done) | (simp; omega) | omega)); (try have hRg := fun o => hRc _ o (Or.inr (Or.inl rfl)) (by first | (simp; done) | (simp; omega) | omega)); (try have hRh := fun o => hRc _ o (Or.inr (Or.inr rfl)) (by first | (simp; done) | (simp; omega) | omega)); go_simp; first | rfl | rw [if_neg (by simp; omega)] | rw [if_neg (by omega)])
    (try simp only [Act.put, List.setIfInBounds_toArray, List.set_cons_zero, List.set_cons_succ])
    refine wpSch_e rfl rfl (fun K hK => ?_)
    go_simp
    refine hK _ _ (fun _ => RS.put7 W (fun h => by omega) _ _ _ _ _ _ _) ?_
    clear hK K
    (try simp only [Act.put, List.setIfInBounds_toArray, List.set_cons_zero, List.set_cons_succ])
    skip
    refine wpSch_e rfl rfl (fun K hK => ?_)
    go_simp
    refine hK _ _ (fun _ => RS.put1 _ (fun h => by omega) _) ?_
    clear hK K
    (try simp only [Act.put, List.setIfInBounds_toArray, List.set_cons_zero, List.set_cons_succ])
    skip
    refine wpSch_e rfl rfl (fun K hK => ?_)
    go_simp
    refine hK _ _ (fun _ => RS.put1 _ (fun h => by omega) _) ?_
    clear hK K
    (try simp only [Act.put, List.setIfInBounds_toArray, List.set_cons_zero, List.set_cons_succ])
    skip
    refine wpSch_e rfl rfl (fun K hK => ?_)
    go_simp
    refine hK _ _ (fun h => absurd rfl h) ?_
    clear hK K
    (try simp only [Act.put, List.setIfInBounds_toArray, List.set_cons_zero, List.set_cons_succ])
    skip
    refine wpSch_nil ?_
    unfold onlyNormal
    clear l0 l1 l2 l3 l4 l5 l6 n0 e0 r0 r1 r2 r3 r4 r5 r6 rf t2 t2f t3 t3f t4 t4f
    gi_wp2
    rw [Exit.noGoto_ret]
    have HFx := Lib.hid ((((Fr.put7 (Fr.refl W) (S := fun b => b ≠ S + 1 ∧ b ≠ S + 1 + 1 ∧ b ≠ S + 1 + 1 + 1 ∧ b ≠ S + 1 + 1 + 1 + 1) (g := S + 1) (fun h => h.1 rfl) (.int .u64 v.next) (.int .u64 v.seq) (.int .u64 v.log) (.slice (p.A 0) (v.tab 0).length (p.c 0)) (.slice (p.A 1) (v.tab 1).length (p.c 1)) (.slice (p.A 2) (v.tab 2).length (p.c 2)) (.slice (p.A 3) (v.tab 3).length (p.c 3))).set (p := ⟨S + 1 + 1, 0, none⟩) (.int .i64 (K : Int)) (fun _ h => h.2.1 rfl)).set (p := ⟨S + 1 + 1 + 1, 0, none⟩) (.int .i64 (en : Int)) (fun _ h => h.2.2.1 rfl)).set (p := ⟨S + 1 + 1 + 1 + 1, 0, none⟩) (.int .i64 0) (fun _ h => h.2.2.2 rfl)).drew
    have hK' := (HFx.out.block D (Array.getElem?_eq_some_iff.1 hK).1 (by omega)).trans hK
    have f1 := ((((b1.put7 (.int .u64 v.next) (.int .u64 v.seq) (.int .u64 v.log) (.slice (p.A 0) (v.tab 0).length (p.c 0)) (.slice (p.A 1) (v.tab 1).length (p.c 1)) (.slice (p.A 2) (v.tab 2).length (p.c 2)) (.slice (p.A 3) (v.tab 3).length (p.c 3))).far (p := ⟨S + 1 + 1, 0, none⟩) q12.symm (.int .i64 (K : Int))).far (p := ⟨S + 1 + 1 + 1, 0, none⟩) q13.symm (.int .i64 (en : Int))).far (p := ⟨S + 1 + 1 + 1 + 1, 0, none⟩) q14.symm (.int .i64 0)).drew
    have f2 := (((((b2.far7 (g' := S + 1) q12 (.int .u64 v.next) (.int .u64 v.seq) (.int .u64 v.log) (.slice (p.A 0) (v.tab 0).length (p.c 0)) (.slice (p.A 1) (v.tab 1).length (p.c 1)) (.slice (p.A 2) (v.tab 2).length (p.c 2)) (.slice (p.A 3) (v.tab 3).length (p.c 3))).put 0 (.int .i64 (K : Int))).far (p := ⟨S + 1 + 1 + 1, 0, none⟩) q23.symm (.int .i64 (en : Int))).far (p := ⟨S + 1 + 1 + 1 + 1, 0, none⟩) q24.symm (.int .i64 0))).drew
    have f3 := (((((b3.far7 (g' := S + 1) q13 (.int .u64 v.next) (.int .u64 v.seq) (.int .u64 v.log) (.slice (p.A 0) (v.tab 0).length (p.c 0)) (.slice (p.A 1) (v.tab 1).length (p.c 1)) (.slice (p.A 2) (v.tab 2).length (p.c 2)) (.slice (p.A 3) (v.tab 3).length (p.c 3))).far (p := ⟨S + 1 + 1, 0, none⟩) q23 (.int .i64 (K : Int))).put 0 (.int .i64 (en : Int))).far (p := ⟨S + 1 + 1 + 1 + 1, 0, none⟩) q34.symm (.int .i64 0))).drew
    have f4 := (((((b4.far7 (g' := S + 1) q14 (.int .u64 v.next) (.int .u64 v.seq) (.int .u64 v.log) (.slice (p.A 0) (v.tab 0).length (p.c 0)) (.slice (p.A 1) (v.tab 1).length (p.c 1)) (.slice (p.A 2) (v.tab 2).length (p.c 2)) (.slice (p.A 3) (v.tab 3).length (p.c 3))).far (p := ⟨S + 1 + 1, 0, none⟩) q24 (.int .i64 (K : Int))).far (p := ⟨S + 1 + 1 + 1, 0, none⟩) q34 (.int .i64 (en : Int))).put 0 (.int .i64 0))).drew
    simp only [List.setIfInBounds_toArray, List.set_cons_zero] at f2 f3 f4
    have hla' : LiveIn _ (S + 1 + 1 + 1 + 1 + 1 + 1 + 1 + 1 + 1) v p := fun j hj => ((hla j hj).fr HFx.out (Nat.le_refl _) (fun x h1 _ => by omega)).wide (Nat.le_refl _) HFx.out.size
    have hX' := ((((Below.put7 hX (g := S + 1) (by omega) (.int .u64 v.next) (.int .u64 v.seq) (.int .u64 v.log) (.slice (p.A 0) (v.tab 0).length (p.c 0)) (.slice (p.A 1) (v.tab 1).length (p.c 1)) (.slice (p.A 2) (v.tab 2).length (p.c 2)) (.slice (p.A 3) (v.tab 3).length (p.c 3))).setCell (p := ⟨S + 1 + 1, 0, none⟩) (show w.heap.size ≤ S + 1 + 1 by omega) (.int .i64 (K : Int))).setCell (p := ⟨S + 1 + 1 + 1, 0, none⟩) (show w.heap.size ≤ S + 1 + 1 + 1 by omega) (.int .i64 (en : Int))).setCell (p := ⟨S + 1 + 1 + 1 + 1, 0, none⟩) (show w.heap.size ≤ S + 1 + 1 + 1 + 1 by omega) (.int .i64 0)).trans' (Ext.dr _)
    generalize hWf : World.drew _ = Wf at HFx hK' f1 f2 f3 f4 hla' hX' ⊢
    have hg := grownBy_putObj' Wf D (.deferred none)
    have hr : ∀ r, some D = some r → ∃ o : Obj, Wf.heap[r]? = some o ∧ o.isCells = false := fun r e => by cases e; exact ⟨_, hK', rfl⟩
    refine ⟨by simp, .inl ⟨_, _, rfl, run_takeDeferred hK', ?_⟩⟩
    refine ⟨manVal (v, K, en, 0) p, man_results (S := S) (r := (v, K, en, 0)) rfl rfl rfl rfl rfl (f1.turn hg hr) (f2.turn hg hr) (f3.turn hg hr) (f4.turn hg hr), ?_⟩
    exact ManPost.mk hFR.out HW.out ((hla'.turn hg hr).live) hB (hX'.grown hg hX'.size (fun k e => by cases e; omega))
  case stop =>
    rintro D cd pre W hD ⟨rest, fin, hfr⟩ hMX hK
    have hlen := hfr.le (Nat.zero_le _)
    have hys : pre.length ≤ s.length := by have h1 := hlen.2.1; have h2 := hlen.1; simp [faVals] at h1; omega
    rcases hMX with ⟨rfl, ⟨v, p, en, hH, hHF, hgd, hen, hz, bS, ⟨u0, u1, u2, u3, u4, u5, u6, b1⟩, ⟨x2, b2⟩, ⟨x3, b3⟩, ⟨x4, b4⟩, b5, b6, b7, hla, hX⟩, hnil⟩ | ⟨rfl, v, p, n, en, hH, hgd, hn, b1, b2, b3, b4, hla, hX⟩
    · obtain rfl := hnil.out _ _ hfr
      have hW : runM s (noLive, 0, 0) (faVals pre ++ []) = (v, pre.length, en, 0) := by
        rw [hH.out []]; rfl
      rw [runM_eq hfr] at hW
      have hB : ∀ j, j < 4 → (v.tab j).length ≤ 1000 * s.length := fun j hj => by have := hgd.out.len j hj; omega
      have hFR := Lib.hid hfr
      obtain ⟨K, hKK⟩ : ∃ K, pre.length = K := ⟨_, rfl⟩
      rw [hKK] at hW b6
      have HW := Lib.hid hW
      clear hW hlen hfr hH hHF hKK hys bS hnil
      have l0 := b5.cell 0
      have l1 := b5.cell 1
      have l2 := b5.cell 2
      have l3 := b5.cell 3
      have l4 := b5.cell 4
      have l5 := b5.cell 5
      have l6 := b5.cell 6
      have n0 := b6.cell 0
      have e0 := b7.cell 0
      have r0 := b1.cell 0
      have r1 := b1.cell 1
      have r2 := b1.cell 2
      have r3 := b1.cell 3
      have r4 := b1.cell 4
      have r5 := b1.cell 5
      have r6 := b1.cell 6
      have rf := b1.frozen
      have t2 := b2.cell 0
      have t2f := b2.frozen
      have t3 := b3.cell 0
      have t3f := b3.frozen
      have t4 := b4.cell 0
      have t4f := b4.frozen
      have hl5 := b5.lt
      have hl6 := b6.lt
      have hl7 := b7.lt
      simp only [Live.cells, List.getElem?_toArray, List.getElem?_cons_zero, List.getElem?_cons_succ] at l0 l1 l2 l3 l4 l5 l6 n0 e0 r0 r1 r2 r3 r4 r5 r6 t2 t3 t4
      have q12 : S + 1 + 1 ≠ S + 1 := by omega
      have q13 : S + 1 + 1 + 1 ≠ S + 1 := by omega
      have q14 : S + 1 + 1 + 1 + 1 ≠ S + 1 := by omega
      have q23 : S + 1 + 1 + 1 ≠ S + 1 + 1 := by omega
      have q24 : S + 1 + 1 + 1 + 1 ≠ S + 1 + 1 := by omega
      have q34 : S + 1 + 1 + 1 + 1 ≠ S + 1 + 1 + 1 := by omega
      gi_wp2
      refine wpIn_wide.2 ?_
      refine wp_region_sch0 (RS ((fun x => x = S + 1 + 1 + 1 + 1 + 1 ∨ x = S + 1 + 1 + 1 + 1 + 1 + 1 ∨ x = S + 1 + 1 + 1 + 1 + 1 + 1 + 1))) 6 [(0, true), (1, true), (2, true), (3, false), (4, false), (5, false), (6, false)] (by kernel_rfl) (by kernel_rfl) RS.refl RS.trans ?_
      refine wpSch_q ?_ rfl rfl (fun w' hR => ?_) ?_
      rotate_left
      · (obtain ⟨hRs, hRc⟩ := hR; (try have hRd := fun o => hRc _ o rfl (by first | (simp; done) | (simp; omega) | omega)); (try have hRe := fun o => hRc _ o (Or.inl rfl) (by first | (simp; done) | (simp; omega) | omega)); (try have hRf := fun o => hRc _ o (Or.inr rfl) (by first | (simp; done) | (simp; omega) | omega)); (try have hRg := fun o => hRc _ o (Or.inr (Or.inl rfl)) (by first | (simp; done) | (simp; omega) | omega)); (try have hRh := fun o => hRc _ o (Or.inr (Or.inr rfl)) (by first | (simp; done) | (simp; omega) | omega)); go_simp; first | rfl | rw [if_neg (by simp; omega)] | rw [if_neg (by omega)])
      (try simp only [Act.put, List.setIfInBounds_toArray, List.set_cons_zero, List.set_cons_succ])
      refine wpSch_q ?_ rfl rfl (fun w' hR => ?_) ?_
      rotate_left
      · (obtain ⟨hRs, hRc⟩ := hR; (try have hRd := fun o => hRc _ o rfl (by first | (simp; done) | (simp; omega) | omega)); (try have hRe := fun o => hRc _ o (Or.inl rfl) (by first | (simp; done) | (simp; omega) | omega)); (try have hRf := fun o => hRc _ o (Or.inr rfl) (by first | (simp; done) | (simp; omega) | omega)); (try have hRg := fun o => hRc _ o (Or.inr (Or.inl rfl)) (by first | (simp; done) | (simp; omega) | omega)); (try have hRh := fun o => hRc _ o (Or.inr (Or.inr rfl)) (by first | (simp; done) | (simp; omega) | omega)); go_simp; first | rfl | rw [if_neg (by simp; omega)] | rw [if_neg (by omega)])
      (try simp only [Act.put, List.setIfInBounds_toArray, List.set_cons_zero, List.set_cons_succ])
      refine wpSch_q ?_ rfl rfl (fun w' hR => ?_) ?_
      rotate_left
      · (obtain ⟨hRs, hRc⟩ := hR; (try have hRd := fun o => hRc _ o rfl (by first | (simp; done) | (simp; omega) | omega)); (try have hRe := fun o => hRc _ o (Or.inl rfl) (by first | (simp; done) | (simp; omega) | omega)); (try have hRf := fun o => hRc _ o (Or.inr rfl) (by first | (simp; done) | (simp; omega) | omega)); (try have hRg := fun o => hRc _ o (Or.inr (Or.inl rfl)) (by first | (simp; done) | (simp; omega) | omega)); (try have hRh := fun o => hRc _ o (Or.inr (Or.inr rfl)) (by first | (simp; done) | (simp; omega) | omega)); go_simp; first | rfl | rw [if_neg (by simp; omega)] | rw [if_neg (by omega)])
      (try simp only [Act.put, List.setIfInBounds_toArray, List.set_cons_zero, List.set_cons_succ])
      refine wpSch_e rfl rfl (fun K hK => ?_)
      go_simp
      refine hK _ _ (fun _ => RS.put7 W (fun h => by omega) _ _ _ _ _ _ _) ?_
      clear hK K
      (try simp only [Act.put, List.setIfInBounds_toArray, List.set_cons_zero, List.set_cons_succ])
      skip
      refine wpSch_e rfl rfl (fun K hK => ?_)
      go_simp
      refine hK _ _ (fun _ => RS.put1 _ (fun h => by omega) _) ?_
      clear hK K
      (try simp only [Act.put, List.setIfInBounds_toArray, List.set_cons_zero, List.set_cons_succ])
      skip
      refine wpSch_e rfl rfl (fun K hK => ?_)
      go_simp
      refine hK _ _ (fun _ => RS.put1 _ (fun h => by omega) _) ?_
      clear hK K
      (try simp only [Act.put, List.setIfInBounds_toArray, List.set_cons_zero, List.set_cons_succ])
      skip
      refine wpSch_e rfl rfl (fun K hK => ?_)
      go_simp
      refine hK _ _ (fun h => absurd rfl h) ?_
      clear hK K
      (try simp only [Act.put, List.setIfInBounds_toArray, List.set_cons_zero, List.set_cons_succ])
      skip
      refine wpSch_nil ?_
      unfold onlyNormal
      clear l0 l1 l2 l3 l4 l5 l6 n0 e0 r0 r1 r2 r3 r4 r5 r6 rf t2 t2f t3 t3f t4 t4f
      gi_wp2
      rw [Exit.noGoto_ret]
      have HFx := Lib.hid ((((Fr.put7 (Fr.refl W) (S := fun b => b ≠ S + 1 ∧ b ≠ S + 1 + 1 ∧ b ≠ S + 1 + 1 + 1 ∧ b ≠ S + 1 + 1 + 1 + 1) (g := S + 1) (fun h => h.1 rfl) (.int .u64 v.next) (.int .u64 v.seq) (.int .u64 v.log) (.slice (p.A 0) (v.tab 0).length (p.c 0)) (.slice (p.A 1) (v.tab 1).length (p.c 1)) (.slice (p.A 2) (v.tab 2).length (p.c 2)) (.slice (p.A 3) (v.tab 3).length (p.c 3))).set (p := ⟨S + 1 + 1, 0, none⟩) (.int .i64 (K : Int)) (fun _ h => h.2.1 rfl)).set (p := ⟨S + 1 + 1 + 1, 0, none⟩) (.int .i64 (en : Int)) (fun _ h => h.2.2.1 rfl)).set (p := ⟨S + 1 + 1 + 1 + 1, 0, none⟩) (.int .i64 0) (fun _ h => h.2.2.2 rfl)).drew
      have hK' := (HFx.out.block D (Array.getElem?_eq_some_iff.1 hK).1 (by omega)).trans hK
      have f1 := ((((b1.put7 (.int .u64 v.next) (.int .u64 v.seq) (.int .u64 v.log) (.slice (p.A 0) (v.tab 0).length (p.c 0)) (.slice (p.A 1) (v.tab 1).length (p.c 1)) (.slice (p.A 2) (v.tab 2).length (p.c 2)) (.slice (p.A 3) (v.tab 3).length (p.c 3))).far (p := ⟨S + 1 + 1, 0, none⟩) q12.symm (.int .i64 (K : Int))).far (p := ⟨S + 1 + 1 + 1, 0, none⟩) q13.symm (.int .i64 (en : Int))).far (p := ⟨S + 1 + 1 + 1 + 1, 0, none⟩) q14.symm (.int .i64 0)).drew
      have f2 := (((((b2.far7 (g' := S + 1) q12 (.int .u64 v.next) (.int .u64 v.seq) (.int .u64 v.log) (.slice (p.A 0) (v.tab 0).length (p.c 0)) (.slice (p.A 1) (v.tab 1).length (p.c 1)) (.slice (p.A 2) (v.tab 2).length (p.c 2)) (.slice (p.A 3) (v.tab 3).length (p.c 3))).put 0 (.int .i64 (K : Int))).far (p := ⟨S + 1 + 1 + 1, 0, none⟩) q23.symm (.int .i64 (en : Int))).far (p := ⟨S + 1 + 1 + 1 + 1, 0, none⟩) q24.symm (.int .i64 0))).drew
      have f3 := (((((b3.far7 (g' := S + 1) q13 (.int .u64 v.next) (.int .u64 v.seq) (.int .u64 v.log) (.slice (p.A 0) (v.tab 0).length (p.c 0)) (.slice (p.A 1) (v.tab 1).length (p.c 1)) (.slice (p.A 2) (v.tab 2).length (p.c 2)) (.slice (p.A 3) (v.tab 3).length (p.c 3))).far (p := ⟨S + 1 + 1, 0, none⟩) q23 (.int .i64 (K : Int))).put 0 (.int .i64 (en : Int))).far (p := ⟨S + 1 + 1 + 1 + 1, 0, none⟩) q34.symm (.int .i64 0))).drew
      have f4 := (((((b4.far7 (g' := S + 1) q14 (.int .u64 v.next) (.int .u64 v.seq) (.int .u64 v.log) (.slice (p.A 0) (v.tab 0).length (p.c 0)) (.slice (p.A 1) (v.tab 1).length (p.c 1)) (.slice (p.A 2) (v.tab 2).length (p.c 2)) (.slice (p.A 3) (v.tab 3).length (p.c 3))).far (p := ⟨S + 1 + 1, 0, none⟩) q24 (.int .i64 (K : Int))).far (p := ⟨S + 1 + 1 + 1, 0, none⟩) q34 (.int .i64 (en : Int))).put 0 (.int .i64 0))).drew
      simp only [List.setIfInBounds_toArray, List.set_cons_zero] at f2 f3 f4
      have hla' : LiveIn _ (S + 1 + 1 + 1 + 1 + 1 + 1 + 1 + 1 + 1) v p := fun j hj => ((hla j hj).fr HFx.out (Nat.le_refl _) (fun x h1 _ => by omega)).wide (Nat.le_refl _) HFx.out.size
      have hX' := ((((Below.put7 hX (g := S + 1) (by omega) (.int .u64 v.next) (.int .u64 v.seq) (.int .u64 v.log) (.slice (p.A 0) (v.tab 0).length (p.c 0)) (.slice (p.A 1) (v.tab 1).length (p.c 1)) (.slice (p.A 2) (v.tab 2).length (p.c 2)) (.slice (p.A 3) (v.tab 3).length (p.c 3))).setCell (p := ⟨S + 1 + 1, 0, none⟩) (show w.heap.size ≤ S + 1 + 1 by omega) (.int .i64 (K : Int))).setCell (p := ⟨S + 1 + 1 + 1, 0, none⟩) (show w.heap.size ≤ S + 1 + 1 + 1 by omega) (.int .i64 (en : Int))).setCell (p := ⟨S + 1 + 1 + 1 + 1, 0, none⟩) (show w.heap.size ≤ S + 1 + 1 + 1 + 1 by omega) (.int .i64 0)).trans' (Ext.dr _)
      generalize hWf : World.drew _ = Wf at HFx hK' f1 f2 f3 f4 hla' hX' ⊢
      have hg := grownBy_putObj' Wf D (.deferred none)
      have hr : ∀ r, some D = some r → ∃ o : Obj, Wf.heap[r]? = some o ∧ o.isCells = false := fun r e => by cases e; exact ⟨_, hK', rfl⟩
      refine ⟨by simp, .inl ⟨_, _, rfl, run_takeDeferred hK', ?_⟩⟩
      refine ⟨manVal (v, K, en, 0) p, man_results (S := S) (r := (v, K, en, 0)) rfl rfl rfl rfl rfl (f1.turn hg hr) (f2.turn hg hr) (f3.turn hg hr) (f4.turn hg hr), ?_⟩
      exact ManPost.mk hFR.out HW.out ((hla'.turn hg hr).live) hB (hX'.grown hg hX'.size (fun k e => by cases e; omega))
    · have hW := hH.out rest
      rw [runM_eq hfr] at hW
      have HW := Lib.hid hW
      have hFR := Lib.hid hfr
      have hB : ∀ j, j < 4 → (v.tab j).length ≤ 1000 * s.length := fun j hj => by have := hgd.out.len j hj; omega
      clear hW hfr hlen hH
      gi_wp2
      rw [Exit.noGoto_ret]
      have hg := grownBy_putObj' W D (.deferred none)
      have hr : ∀ r, some D = some r → ∃ o : Obj, W.heap[r]? = some o ∧ o.isCells = false := fun r e => by cases e; exact ⟨_, hK, rfl⟩
      refine ⟨by simp, .inl ⟨_, _, rfl, run_takeDeferred hK, ?_⟩⟩
      refine ⟨manVal (v, n, en, 9) p, man_results (S := S) (r := (v, n, en, 9)) rfl rfl rfl rfl rfl (b1.turn hg hr) (b2.turn hg hr) (b3.turn hg hr) (b4.turn hg hr), ?_⟩
      exact ManPost.mk hFR.out HW.out ((hla.turn hg hr).live) hB (hX.grown hg hX.size (fun k e => by cases e; omega))
theorem manReplay_any (s : List UInt8) (hl : s.length ≤ 1048576) (w : World) : Calls Try.prog 33 #[str s] w (ManPost s w) :=
  manReplay_anyN s (by omega) (s.length + 1) (by omega) (frames_few s) w
end Go.Proofs.Yteplpgknnlehnaa
