/- Logs read whole (layer 5): the program's walk. -/
import Derived.Test.YteplpgknnlehnaaAll
import Derived.Test.YteplpgknnlehnaaWalSame
import Derived.WalkMore
namespace Go.Proofs.Yteplpgknnlehnaa
set_option linter.unusedSimpArgs false
set_option linter.unusedVariables false
open Go.RowKit Go.Shelf

attribute [local go_sem] Oper.semAt_some

section
variable {w w' : World} {row : Option Nat}
theorem Box.turn {g : Nat} {t : TypeId} {cs : Array Value} (h : Box w g t cs) (hg : w.grownBy w' row) (hr : ∀ r, row = some r → ∃ o : Obj, w.heap[r]? = some o ∧ o.isCells = false) : Box w' g t cs := h.keep (grownBy_keeps_cells hg hr h rfl)
theorem Row.turn {lo hi sz n : Nat} {A : Option Addr} {xs : List Value} (h : Row w lo hi sz A n xs) (hg : w.grownBy w' row) (hr : ∀ r, row = some r → ∃ o : Obj, w.heap[r]? = some o ∧ o.isCells = false) : Row w' lo hi sz A n xs :=
  ⟨h.len, fun hn => by
    obtain ⟨b, off, e, h1, h2, hc⟩ := h.mem hn
    exact ⟨b, off, e, h1, h2, fun j u hu => cell_kept (hc j u hu) hg hr⟩⟩
theorem Own.turn {α : Type} {base : Nat} {e : TypeId} {f : α → List Value} {sz : Nat} {A : Option Addr} {c : Nat} {l : List α} (h : Own w base e f sz A c l) (hg : w.grownBy w' row) (hr : ∀ r, row = some r → ∃ o : Obj, w.heap[r]? = some o ∧ o.isCells = false) : Own w' base e f sz A c l := by
  refine h.grown hg fun g e1 e2 => ?_
  obtain ⟨o, ho, hc⟩ := hr g e1
  rcases h.2 with ⟨h0, _⟩ | ⟨g', cap, cur, hv, _, hh, _⟩
  · injection h0 with h0
    subst h0
    cases e2
  · injection hv with hv
    subst hv
    have : g' = g := by simpa [ownBlk] using e2
    subst this
    rw [hh] at ho
    cases ho
    cases hc
theorem Bats.turn {B : Nat} {A : Option Addr} {c : Nat} {L : List LB} (h : Bats w B A c L) (hg : w.grownBy w' row) (hr : ∀ r, row = some r → ∃ o : Obj, w.heap[r]? = some o ∧ o.isCells = false) : Bats w' B A c L :=
  ⟨h.1.turn hg hr, fun q hq => ⟨⟨(h.2 q hq).1.1.turn hg hr, (h.2 q hq).1.2.1, Nat.le_trans (h.2 q hq).1.2.2 hg.size⟩, (h.2 q hq).2⟩⟩
end

theorem wpIn_scope_wide {n : Nat} {P : Program} {c : Code} {Q : Exit → Act → World → Prop} {a : Act} {w : World} (h : c.wpIn Fence.wide n P (Exit.noGoto Q) a w) : (Code.scope c).wpIn Fence.wide n P Q a w := wpIn_wide.2 (wp_scope_straight (wpIn_wide.1 h))
/-- between two rounds -/
def RI (s : List UInt8) (w : World) (S : Nat) (pre : List (FA s)) (W : World) : Prop :=
  ∃ (Q : List LB) (seq en : Nat) (A : Option Addr) (c : Nat), Hid (∀ rest, runW s ([], 0, 0) (faVals pre ++ rest) = runW s (Q.map LB.b, seq, en) rest) ∧ seq ≤ 1125899906843000 ∧ Q.length ≤ pre.length ∧
    S + 1 + 1 + 1 + 1 < W.heap.size ∧ Box W S 9 #[str s] ∧ Box W (S + 1) 55 #[.slice A Q.length c] ∧ Box W (S + 1 + 1) 22 #[.int .u64 seq] ∧ Box W (S + 1 + 1 + 1) 3 #[.int .i64 en] ∧ Bats W (S + 1 + 1 + 1 + 1 + 1) A c Q ∧ Below w.heap.size w W
/-- a round has left the loop -/
def RX (s : List UInt8) (w : World) (S : Nat) (cd : Code) (pre : List (FA s)) (W : World) : Prop :=
  cd = .exit 0 ∧ ∃ (Q : List LB) (en : Nat) (A : Option Addr) (c : Nat), Hid (∀ rest, runW s ([], 0, 0) (faVals pre ++ rest) = (Q.map LB.b, en)) ∧ Q.length ≤ s.length ∧
    Box W (S + 1) 55 #[.slice A Q.length c] ∧ Box W (S + 1 + 1 + 1) 3 #[.int .i64 en] ∧ Bats W (S + 1 + 1 + 1 + 1 + 1) A c Q ∧ Below w.heap.size w W
theorem RI.own (s : List UInt8) (w : World) (S B : Nat) (hB : w.heap.size ≤ B) : OwnFrom B (RI s w S) := by
  rintro pre X Y row ⟨Q, seq, en, A, c, h1, h2, h3, hz, h4, h5, h6, h7, h8, h9⟩ hg hr
  have hr' := fun r e => (hr r e).2
  exact ⟨Q, seq, en, A, c, h1, h2, h3, Nat.lt_of_lt_of_le hz hg.size, h4.turn hg hr', h5.turn hg hr', h6.turn hg hr', h7.turn hg hr', h8.turn hg hr', h9.grown hg h9.size (fun k e => Nat.le_trans hB (hr k e).1)⟩
theorem RX.own (s : List UInt8) (w : World) (S B : Nat) (cd : Code) (hB : w.heap.size ≤ B) : OwnFrom B (RX s w S cd) := by
  rintro pre X Y row ⟨h0, Q, en, A, c, h1, h2, h5, h7, h8, h9⟩ hg hr
  have hr' := fun r e => (hr r e).2
  exact ⟨h0, Q, en, A, c, h1, h2, h5.turn hg hr', h7.turn hg hr', h8.turn hg hr', h9.grown hg h9.size (fun k e => Nat.le_trans hB (hr k e).1)⟩

/-- a round's frame -/
def RA (s : List UInt8) (S : Nat) (x : FA s) (a' : Act) (W : World) : Prop := ∃ Bx, S + 1 + 1 + 1 + 1 < Bx ∧ Box W Bx 73 #[.int .u8 (x.1.2.kind.toNat : Int), str x.1.2.load] ∧ a' = { tmps := #[str s, .pointer (some ⟨S, 0, none⟩), .slice none 0 0, .int .i64 0, .pointer (some ⟨S + 1, 0, none⟩), .pointer (some ⟨S + 1 + 1, 0, none⟩), .pointer (some ⟨S + 1 + 1 + 1, 0, none⟩), .int .i64 (x.1.1 : Int), .pointer (some ⟨Bx, 0, none⟩), undef, undef, undef, undef, undef, str s, .func (.func 88) #[] #[.pointer (some ⟨S + 1 + 1 + 1 + 1, 0, none⟩)], .int .i64 (x.1.1 : Int), .agg #[.int .u8 (x.1.2.kind.toNat : Int), str x.1.2.load], undef, undef, undef, undef, undef, undef, undef, undef, undef, undef, undef, undef, undef, undef, undef, undef, undef, undef, undef, undef, undef, undef, undef, undef, undef, undef, undef, undef, undef, undef, undef, undef, undef, undef, undef, undef, undef, undef], defers := [] }
theorem RA.own (s : List UInt8) (S B : Nat) (x : FA s) (a' : Act) : OwnFrom B (fun (_ : Unit) W => RA s S x a' W) := by
  rintro _ X Y row ⟨Bx, h1, h2, h3⟩ hg hr
  exact ⟨Bx, h1, h2.turn hg (fun r e => (hr r e).2), h3⟩
theorem KeepsFrom.ext {B : Nat} {w w' : World} (h : Ext w w') : KeepsFrom B w w' := ⟨h.size, fun k o _ hk _ => (h.block k (Array.getElem?_eq_some_iff.1 hk).1).trans hk⟩

theorem Own.blk_cells {α : Type} {w : World} {base : Nat} {e : TypeId} {f : α → List Value} {sz : Nat} {A : Option Addr} {c : Nat} {l : List α} (h : Own w base e f sz A c l) (g : Nat) (o : Obj) (hg : ownBlk A = some g) (ho : w.heap[g]? = some o) : o.isCells = true := by
  rcases h.2 with ⟨h0, _⟩ | ⟨g', cap, cur, hv, _, hh, _⟩
  · injection h0 with h0
    subst h0
    cases hg
  · injection hv with hv
    subst hv
    have : g' = g := by simpa [ownBlk] using hg
    subst this
    rw [hh] at ho
    cases ho
    rfl
/-- `v = append(v, x)`, inside a fence -/
theorem wpListIn_push_at {F : Fence} {nF : Nat} {P : Program} {ops : Array Oper} {rest : List Oper} {o : Oper} {a : Act} {Q : Exit → Act → World → Prop} {w : World} {t e : TypeId} {sz bytes : Nat} (E : ElemOf P t e sz bytes) (hgd : o.guard = none) (s x : Operand)
    (ho : o.op = .call { callee := .builtin .append, args := #[s, x], argTypes := #[t, t] })
    {α : Type} {f : α → List Value} {base : Nat} {A : Option Addr} {c n : Nat} {l : List α} (y : α) (hn : n = l.length) (hown : Own w base e f sz A c l) (hs : a.eval s = .slice A n c)
    (hx : a.eval x = .slice (some ⟨w.heap.size, 0, none⟩) 1 1) {cs : List Value} (hcs : cs = f y) (hl : (f y).length = sz) (h1 : ∀ u ∈ f y, u.oneCell' = true)
    (hsmall : (l.length + 1) * bytes ≤ 140737488355328) (hlen : l.length + 1 ≤ 140737488355328) (hbase : base ≤ w.heap.size)
    (h : ∀ A' c' w', Own w' base e f sz A' c' (l ++ [y]) → (w.alloc (.cells cs.toArray e)).grownBy w' (ownBlk A) → (∀ g, ownBlk A' = some g → ownBlk A = some g ∨ w.heap.size ≤ g) → wpListIn F nF P ops Q rest (a.put o.dst (.slice A' (l.length + 1) c')) w') :
    wpListIn F nF P ops Q (o :: rest) a (w.alloc (.cells cs.toArray e)) := by
  subst hn
  subst hcs
  obtain ⟨i, z, hi, hz, hsz, hby, hzs⟩ := E.info
  refine wpListIn_append_own_at _ hgd s x t ho base e i z sz bytes E.under hi hz hsz hby hzs E.pos (.slice A l.length c) l.length (l.flatMap f) hs (World.ownsRow.alloc hown _)
    ⟨w.heap.size, 0, none⟩ 1 1 (f y) hx (by rw [hl, Nat.one_mul]) (cells_new w (f y) e) h1 (by unfold maxLen; omega) hsmall (by simp; omega) ?_
  intro v' w' hown' hg _ hat
  obtain ⟨A', c', rfl⟩ := own_form hown'
  have hb : ∀ A : Option Addr, ∀ n c, Value.ownBlock (.slice A n c) = ownBlk A := fun A n c => by cases A <;> rfl
  refine h A' c' w' ?_ ?_ ?_
  · unfold Own
    rw [flatMap_snoc, show (l ++ [y]).length = l.length + 1 by simp]
    exact hown'
  · rw [← hb A l.length c]; exact hg
  · intro g e
    rw [hb, hb] at hat
    rcases hat with h1 | h1
    · exact .inl (by rw [← h1]; exact e)
    · rw [h1] at e
      cases e
      exact .inr (by simp)

set_option maxRecDepth 100000 in
set_option maxHeartbeats 800000 in
theorem replay_any (s : List UInt8) (hl : s.length ≤ 1099511627776) (w : World) : Calls Try.prog 28 #[str s] w (RepPost s w) := by
  refine (callsIn_wide (n := 5)).1 ?_
  refine callsIn_of_wp_marks Try.func28 rfl trivial ?_ rfl
  simp only [Try.ntmps28, List.size_toArray, List.length_cons, List.length_nil, Nat.reduceAdd, Nat.reduceSub, Array.replicate_succ, Array.replicate_zero, List.push_toArray, List.append_toArray, List.nil_append, List.cons_append]
  gi_wp2
  refine wpIn_scope_wide ?_
  gi_wp2
  apply wpIn_label
  gi_wp2_with (refine ⟨trivial, ?_⟩; gi_at_call 67; refine (all_in _ s _).mono ?_; rintro e w' ⟨rfl, rfl⟩)
  obtain ⟨S, hS⟩ : ∃ S, w.heap.size = S := ⟨_, rfl⟩
  obtain ⟨w0, hw0⟩ : ∃ w0, w0 = (((((w.alloc (.cells #[str s] 9)).alloc (.cells #[.slice none 0 0] 55)).alloc (.cells #[.int .u64 0] 22)).alloc (.cells #[.int .i64 0] 3)).alloc (.cells #[str s] 9)) := ⟨_, rfl⟩
  have hz0 : w0.heap.size = S + 1 + 1 + 1 + 1 + 1 := by rw [hw0]; simp [hS]
  have bS : Box w0 S 9 #[str s] := by rw [hw0]; exact ((((Box.new_at _ _ _ _ hS.symm).alloc _).alloc _).alloc _).alloc _
  have bL : Box w0 (S + 1) 55 #[.slice none 0 0] := by rw [hw0]; exact (((Box.new_at _ _ _ _ (by simp [hS])).alloc _).alloc _).alloc _
  have bQ : Box w0 (S + 1 + 1) 22 #[.int .u64 0] := by rw [hw0]; exact ((Box.new_at _ _ _ _ (by simp [hS])).alloc _).alloc _
  have bE : Box w0 (S + 1 + 1 + 1) 3 #[.int .i64 0] := by rw [hw0]; exact (Box.new_at _ _ _ _ (by simp [hS])).alloc _
  have bC : Box w0 (S + 1 + 1 + 1 + 1) 9 #[str s] := by rw [hw0]; exact Box.new_at _ _ _ _ (by simp [hS])
  have hX0 : Ext w w0 := by rw [hw0]; (repeat (first | exact Below.refl _ _ | refine Ext.trans' ?_ (Ext.al _ _) | refine Ext.trans' ?_ (Ext.dr _) | refine Ext.trans' ?_ (by assumption)))
  rw [← hw0, hS]
  clear hw0
  refine wpIn_rangeFunc_ownH rfl (by omega) (gf := 88) (lb := #[.pointer (some ⟨S + 1 + 1 + 1 + 1, 0, none⟩)]) rfl trivial (enters_of Try.func88 (by kernel_rfl) rfl)
    (all_stops (5 - 1) (by omega) (S + 1 + 1 + 1 + 1) s hl w0 (by omega) (bC.cell 0)) (fun h k => ⟨Nat.le_trans h.1 k.1, k.2.trans h.2⟩)
    (fun W l o o' hl1 hl2 _ _ => by have hl3 := (Array.getElem?_eq_some_iff.1 hl2).1; exact ⟨by simp, World.cell?_of_block ((grownBy_putObj' W l o').block _ (by show S + 1 + 1 + 1 + 1 < _; omega) (by intro e; injection e with e; dsimp only at e; omega))⟩) (Below.refl _ _) (fun _ => rfl)
    (RI s w S) (RX s w S) (RI.own s w S _ (by omega)) (fun cd => RX.own s w S _ cd (by omega))
    ⟨[], 0, 0, none, 0, fun _ => rfl, by omega, by simp, by omega, bS, bL, bQ, bE, Bats.nil_ _ _, hX0⟩ (RA s S) (fun x a' => RA.own s S _ x a') ?assign ?body ?done ?stop
  case assign =>
    rintro l pre x W K ⟨Q, seq, en, A, c, h1, h2, h3, hz, h4, h5, h6, h7, h8, h9⟩ hK
    dsimp only [faEnc]
    gi_wp2
    have hA : Ext W (W.alloc (.cells #[.int .u8 (x.1.2.kind.toNat : Int), str x.1.2.load] 73)) := Ext.al _ _
    exact hK _ _ (KeepsFrom.ext hA) ⟨hA.size, hA.cell (p := ⟨S + 1 + 1 + 1 + 1, 0, none⟩) hz⟩
      ⟨Q, seq, en, A, c, h1, h2, h3, Nat.lt_of_lt_of_le hz hA.size, h4.ext hA, h5.ext hA, h6.ext hA, h7.ext hA, h8.ext hA, h9.trans' hA⟩ ⟨W.heap.size, by omega, Box.new _ _ _, rfl⟩
  case body =>
    rintro l pre x a' W hlW ⟨rc, hrc⟩ ⟨Q, seq, en, A, c, hH, hsq, hQ, hz, bS, bL, bQ, bE, hbats, hX⟩ ⟨Bx, hBx, bX, rfl⟩ hlt
    obtain ⟨⟨pl, kd, ld⟩, hpl, hld⟩ := x
    have hld' : ld.length ≤ 262144 := hld
    have hpl' : pl ≤ s.length := hpl
    dsimp only at *
    have hf0 := bX.cell 0
    have hf1 := bX.cell 1
    simp only [List.getElem?_toArray, List.getElem?_cons_zero, List.getElem?_cons_succ] at hf0 hf1
    have C := Lib.hid (fun w => decodeBatch_any ld (by omega) w)
    obtain ⟨d1, d2⟩ := decodeBatch_seq ld
    have d3 := decodeBatch_err ld
    have d4 := fun h => (decodeBatch_ok (l := ld) h).2.1
    have HOK : Hid (∀ b n, decodeBatch ld = (b, n) → okW seq (pl, ⟨kd, ld⟩) = (decide (kd.toNat = 2) && decide (n = 0) && decide (seq < b.seq))) := by
      intro b n h
      rw [okW]
      dsimp only
      rw [h, show decide (kd = 2) = decide (kd.toNat = 2) from decide_eq_decide.2 kind_two.symm]
    have HBAD : Hid (okW seq (pl, ⟨kd, ld⟩) = false → ∀ rest, runW s ([], 0, 0) (faVals (pre ++ [⟨(pl, ⟨kd, ld⟩), hpl, hld⟩]) ++ rest) = (Q.map LB.b, en)) := by
      intro h rest
      rw [faVals, List.map_append, List.append_assoc]
      refine (hH.out _).trans ?_
      show runW s _ ((pl, ⟨kd, ld⟩) :: rest) = _
      rw [runW, if_neg (by rw [h]; simp)]
    have HN : Hid (∀ b n m, decodeBatch ld = (b, n) → okW seq (pl, ⟨kd, ld⟩) = true → (takeFrame (s.drop pl)).2.1 = m → ∀ rest, runW s ([], 0, 0) (faVals (pre ++ [⟨(pl, ⟨kd, ld⟩), hpl, hld⟩]) ++ rest) = runW s (Q.map LB.b ++ [b], lastOf b, pl + m) rest) := by
      intro b n m h hok hm rest
      rw [faVals, List.map_append, List.append_assoc]
      refine (hH.out _).trans ?_
      show runW s _ ((pl, ⟨kd, ld⟩) :: rest) = _
      rw [runW, if_pos hok, stepW]
      dsimp only
      rw [h, hm]
    have CT := Lib.hid (fun w => frameTake_any (s.drop pl) (by simp; omega) w)
    obtain ⟨g1, g2, g3, -⟩ := takeFrame_facts (s.drop pl)
    rw [List.length_drop] at g2
    obtain ⟨⟨k2, l2⟩, m, e2, hu⟩ : ∃ f n e, takeFrame (s.drop pl) = (f, n, e) := ⟨_, _, _, rfl⟩
    have HN1 : Hid (∀ b n, decodeBatch ld = (b, n) → okW seq (pl, ⟨kd, ld⟩) = true → ∀ rest, runW s ([], 0, 0) (faVals (pre ++ [⟨(pl, ⟨kd, ld⟩), hpl, hld⟩]) ++ rest) = runW s (Q.map LB.b ++ [b], lastOf b, pl + m) rest) := fun b n h1 h2 => HN.out b n m h1 h2 (by rw [hu])
    rw [hu] at CT g1 g2 g3
    dsimp only at g1 g2 g3
    obtain ⟨⟨sq, ps⟩, no, hdec⟩ : ∃ b n, decodeBatch ld = (b, n) := ⟨_, _, rfl⟩
    have HOK' := Lib.hid (HOK.out _ _ hdec)
    have HN' := Lib.hid (HN1.out _ _ hdec)
    rw [hdec] at C d1 d2 d3 d4
    dsimp only at C d1 d2 d3 d4 HOK'
    have hkl := kd.toNat_lt
    obtain ⟨kn, hkn⟩ : ∃ kn, kd.toNat = kn := ⟨_, rfl⟩
    rw [hkn] at hkl HOK' hf0
    have HK := Lib.hid hkn
    clear HOK HN HN1 hdec hu hkn hH
    gi_wp2_with fail
    refine ⟨trivial, (CallsIn.inRound l (callsIn_wide.2 (C.out _))).mono ?_⟩
    rintro _ w2 ⟨A2, c2, rfl, hr2, hb2⟩
    dsimp only at *
    have hb2a : Ext W (w2.alloc (.cells #[.int .u64 sq, .slice A2 ps.length c2] 25)) := hb2.trans' (Ext.al _ _)
    have hz2 := hb2.size
    have hBxW := bX.lt
    have y0 := ((bX.ext hb2a).cell 0)
    have q0 := ((bQ.ext hb2a).cell 0)
    have l0 := ((bL.ext hb2a).cell 0)
    rw [show ((kd.toNat : Nat) : Int) = ((kn : Nat) : Int) by rw [HK.out]] at y0
    simp only [List.getElem?_toArray, List.getElem?_cons_zero, List.getElem?_cons_succ] at y0 q0 l0
    clear hf0 hf1
    by_cases hk : kn = 2
    · by_cases hn : no = 0
      · by_cases hs : seq < sq
        · have hok : okW seq (pl, ⟨kd, ld⟩) = true := by rw [HOK'.out]; simp [hk, hn, hs]
          have HNX := Lib.hid (HN'.out hok)
          subst hk hn
          have hp := d4 rfl
          have HL := Lib.hid (fun w => last_any sq ps.length c2 A2 d1 (by omega) (by omega) w)
          clear hok HOK' HBAD HN' d4 HK
          have hba := hbats.ext hb2a
          have hAlo : ∀ g, ownBlk A = some g → S + 1 + 1 + 1 + 1 + 1 ≤ g ∧ g < W.heap.size := fun g e => hbats.1.blk g e
          gi_wp2_with (gi_at_builtin; refine wpListIn_push_at Try.batchesOf rfl _ _ rfl (⟨⟨sq, ps⟩, A2, c2, W.heap.size, w2.heap.size⟩ : LB) rfl hba.1 rfl (by first | rfl | (simp; done) | (simp; rfl)) rfl (LB.cells_len _) (LB.one _) (by omega) (by omega) (by simp; omega) ?_)
          intro A' c' w10 hown' hg hat
          have hbp := hba.push (q := ⟨⟨sq, ps⟩, A2, c2, W.heap.size, w2.heap.size⟩) ⟨hr2.keep (fun b _ h2 => (Ext.al w2 (.cells #[.int .u64 sq, .slice A2 ps.length c2] 25)).block b h2), by dsimp only; omega, by simp⟩ (fun g e => .inl (hAlo g e).2) hown' hg
            (fun g e => by rcases hat g e with h | h; exact .inl h; exact .inr (by simpa using h))
          have hX10 : Ext w w10 := hba.1.below_push (hX.trans' hb2a) (by omega) (hX.trans' hb2a).size hg
          have hF10 : Fr (fun b => b < S + 1 + 1 + 1 + 1 + 1) W w10 := ((Fr.of_ext hb2a).alloc (.cells #[.int .u64 sq, .slice A2 ps.length c2] 25)).grown_step hg (fun g e _ h => by have := hAlo g e; omega)
          have hK10 : KeepsFrom w0.heap.size W w10 := ((KeepsFrom.ext hb2a).trans (KeepsFrom.ext (Ext.al _ (.cells #[.int .u64 sq, .slice A2 ps.length c2] 25)))).trans ((KeepsOthers.of_grownBy hg (fun g o e ho => by
            have h1 := hba.1.blk_cells g o e
            exact (hba.1.alloc (.cells #[.int .u64 sq, .slice A2 ps.length c2] 25)).blk_cells g o e ho)).from _)
          have bB := ((Box.new w2 25 #[.int .u64 sq, .slice A2 ps.length c2]).alloc (.cells #[.int .u64 sq, .slice A2 ps.length c2] 25)).grown hg (fun e => by have := hAlo _ e.symm; omega)
          have bL10 := bL.fr hF10 (by omega)
          have bQ10 := bQ.fr hF10 (by omega)
          have bE10 := bE.fr hF10 (by omega)
          have bS10 := bS.fr hF10 (by omega)
          have hz10 := hF10.size
          obtain ⟨T, hT⟩ : ∃ T, w2.heap.size = T := ⟨_, rfl⟩
          rw [hT] at bB
          have hTl : S + 1 + 1 + 1 + 1 < T := by omega
          clear hba hg hat hown' y0 q0 l0
          have l0 := bL10.cell 0
          have lf := bL10.frozen
          simp only [List.getElem?_toArray, List.getElem?_cons_zero, List.getElem?_cons_succ] at l0
          have bL11 := bL10.put 0 (.slice A' (Q.length + 1) c')
          simp only [List.setIfInBounds_toArray, List.set_cons_zero, List.set_cons_succ] at bL11
          have q1 : T ≠ S + 1 := by omega
          have bB11 := bB.far (p := ⟨S + 1, 0, none⟩) q1 (.slice A' (Q.length + 1) c')
          have bQ11 := bQ10.far (p := ⟨S + 1, 0, none⟩) (show S + 1 + 1 ≠ S + 1 by omega) (.slice A' (Q.length + 1) c')
          have bE11 := bE10.far (p := ⟨S + 1, 0, none⟩) (show S + 1 + 1 + 1 ≠ S + 1 by omega) (.slice A' (Q.length + 1) c')
          have bS11 := bS10.far (p := ⟨S + 1, 0, none⟩) (show S ≠ S + 1 by omega) (.slice A' (Q.length + 1) c')
          have b0 := bB11.cell 0
          have b1 := bB11.cell 1
          simp only [List.getElem?_toArray, List.getElem?_cons_zero, List.getElem?_cons_succ] at b0 b1
          gi_wp2_with fail
          obtain ⟨w11, hw11⟩ : ∃ w11, w10.setCell ⟨S + 1, 0, none⟩ (.slice A' (Q.length + 1) c') = w11 := ⟨_, rfl⟩
          have hX11 : Ext w w11 := by rw [← hw11]; exact hX10.setCell (p := ⟨S + 1, 0, none⟩) (show w.heap.size ≤ S + 1 by omega) _
          have hK11 : KeepsFrom w0.heap.size W w11 := by rw [← hw11]; exact hK10.trans ((KeepsOthers.setCell _ _ _).from _)
          have hF11 : Fr (fun b => b = S + 1 + 1 + 1 + 1) W w11 := by rw [← hw11]; exact (hF10.mono (fun b _ h => by omega)).set _ (fun _ h => by have h' : S + 1 = S + 1 + 1 + 1 + 1 := h; omega)
          have hG11 : Fr (fun b => S + 1 + 1 + 1 + 1 + 1 ≤ b) w10 w11 := by rw [← hw11]; exact (Fr.refl w10).set _ (fun _ h => by have h' : S + 1 + 1 + 1 + 1 + 1 ≤ S + 1 := h; omega)
          rw [hw11] at bL11 bB11 bQ11 bE11 bS11
          rw [hw11]
          clear hX10 hK10 hF10 bL10 bQ10 bE10 bS10 l0 lf b0 b1 hw11
          refine ⟨trivial, (CallsIn.inRound l (callsIn_wide.2 (HL.out _))).mono ?_⟩
          rintro _ w12 ⟨rfl, hb12⟩
          have bL12 := bL11.ext hb12
          have bQ12 := bQ11.ext hb12
          have bE12 := bE11.ext hb12
          have bS12 := bS11.ext hb12
          have hX12 := hX11.trans' hb12
          have hK12 := hK11.trans (KeepsFrom.ext (B := w0.heap.size) hb12)
          have hF12 := hF11.ext_step hb12
          have hG12 := hG11.ext_step hb12
          clear bL11 bQ11 bE11 bS11 bB11 hX11 hK11 hF11 hG11 hb12
          have q0 := bQ12.cell 0
          have qf := bQ12.frozen
          have s0 := bS12.cell 0
          simp only [List.getElem?_toArray, List.getElem?_cons_zero, List.getElem?_cons_succ] at q0 s0
          have q2 : S ≠ S + 1 + 1 := by omega
          gi_wp2_with fail
          obtain ⟨w13, hw13⟩ : ∃ w13, w12.setCell ⟨S + 1 + 1, 0, none⟩ (.int .u64 ((sq + ps.length - 1 : Nat) : Int)) = w13 := ⟨_, rfl⟩
          have bL13 := bL12.far (p := ⟨S + 1 + 1, 0, none⟩) (show S + 1 ≠ S + 1 + 1 by omega) (.int .u64 ((sq + ps.length - 1 : Nat) : Int))
          have bQ13 := bQ12.put 0 (.int .u64 ((sq + ps.length - 1 : Nat) : Int))
          simp only [List.setIfInBounds_toArray, List.set_cons_zero, List.set_cons_succ] at bQ13
          have bE13 := bE12.far (p := ⟨S + 1 + 1, 0, none⟩) (show S + 1 + 1 + 1 ≠ S + 1 + 1 by omega) (.int .u64 ((sq + ps.length - 1 : Nat) : Int))
          have bS13 := bS12.far (p := ⟨S + 1 + 1, 0, none⟩) q2 (.int .u64 ((sq + ps.length - 1 : Nat) : Int))
          have hX13 : Ext w w13 := by rw [← hw13]; exact hX12.setCell (p := ⟨S + 1 + 1, 0, none⟩) (show w.heap.size ≤ S + 1 + 1 by omega) _
          have hK13 : KeepsFrom w0.heap.size W w13 := by rw [← hw13]; exact hK12.trans ((KeepsOthers.setCell _ _ _).from _)
          have hF13 : Fr (fun b => b = S + 1 + 1 + 1 + 1) W w13 := by rw [← hw13]; exact hF12.set _ (fun _ h => by have h' : S + 1 + 1 = S + 1 + 1 + 1 + 1 := h; omega)
          have hG13 : Fr (fun b => S + 1 + 1 + 1 + 1 + 1 ≤ b) w10 w13 := by rw [← hw13]; exact hG12.set _ (fun _ h => by have h' : S + 1 + 1 + 1 + 1 + 1 ≤ S + 1 + 1 := h; omega)
          rw [hw13] at bL13 bQ13 bE13 bS13
          rw [hw13]
          clear hX12 hK12 hF12 hG12 bL12 bQ12 bE12 bS12 q0 qf s0 hw13
          refine ⟨trivial, (CallsIn.inRound l (callsIn_wide.2 (CT.out _))).mono ?_⟩
          rintro _ w14 ⟨rfl, hb14⟩
          dsimp only
          have hb15 : Ext w13 (w14.alloc (.cells #[.int .u8 (k2.toNat : Int), str l2] 73)) := hb14.trans' (Ext.al _ _)
          have bE15 := bE13.ext hb15
          have e0 := bE15.cell 0
          have ef := bE15.frozen
          simp only [List.getElem?_toArray, List.getElem?_cons_zero, List.getElem?_cons_succ] at e0
          have bE16 := bE15.put 0 (.int .i64 ((pl + m : Nat) : Int))
          simp only [List.setIfInBounds_toArray, List.set_cons_zero, List.set_cons_succ] at bE16
          have bL16 := (bL13.ext hb15).far (p := ⟨S + 1 + 1 + 1, 0, none⟩) (show S + 1 ≠ S + 1 + 1 + 1 by omega) (.int .i64 ((pl + m : Nat) : Int))
          have bQ16 := (bQ13.ext hb15).far (p := ⟨S + 1 + 1 + 1, 0, none⟩) (show S + 1 + 1 ≠ S + 1 + 1 + 1 by omega) (.int .i64 ((pl + m : Nat) : Int))
          have bS16 := (bS13.ext hb15).far (p := ⟨S + 1 + 1 + 1, 0, none⟩) (show S ≠ S + 1 + 1 + 1 by omega) (.int .i64 ((pl + m : Nat) : Int))
          have hX16 := (hX13.trans' hb15).setCell (p := ⟨S + 1 + 1 + 1, 0, none⟩) (show w.heap.size ≤ S + 1 + 1 + 1 by omega) (.int .i64 ((pl + m : Nat) : Int))
          have hK16 := (hK13.trans (KeepsFrom.ext (B := w0.heap.size) hb15)).trans ((KeepsOthers.setCell _ ⟨S + 1 + 1 + 1, 0, none⟩ (.int .i64 ((pl + m : Nat) : Int))).from _)
          have hF16 := (hF13.ext_step hb15).set (p := ⟨S + 1 + 1 + 1, 0, none⟩) (.int .i64 ((pl + m : Nat) : Int)) (fun _ h => by have h' : S + 1 + 1 + 1 = S + 1 + 1 + 1 + 1 := h; omega)
          have hG16 := (hG13.ext_step hb15).set (p := ⟨S + 1 + 1 + 1, 0, none⟩) (.int .i64 ((pl + m : Nat) : Int)) (fun _ h => by have h' : S + 1 + 1 + 1 + 1 + 1 ≤ S + 1 + 1 + 1 := h; omega)
          have hbp16 := hbp.fr hG16 (fun b h _ => h)
          have hz16 := hF16.size
          have hRI : RI s w S (pre ++ [⟨(pl, ⟨kd, ld⟩), hpl, hld⟩]) ((w14.alloc (.cells #[.int .u8 (k2.toNat : Int), str l2] 73)).setCell ⟨S + 1 + 1 + 1, 0, none⟩ (.int .i64 ((pl + m : Nat) : Int))) :=
            ⟨Q ++ [⟨⟨sq, ps⟩, A2, c2, W.heap.size, w2.heap.size⟩], lastOf ⟨sq, ps⟩, pl + m, A', c', fun rest => by rw [HNX.out]; simp, by simp [lastOf]; omega, by simp; omega, Nat.lt_of_lt_of_le hz hz16, bS16, by rw [List.length_append]; exact bL16, bQ16, bE16, hbp16, hX16⟩
          have hKp := World.cell?_of_block (a := ⟨S + 1 + 1 + 1 + 1, 0, none⟩) (hF16.block (S + 1 + 1 + 1 + 1) hz rfl)
          have HRI := Lib.hid hRI
          have HKP := Lib.hid hKp
          have HK16 := Lib.hid hK16
          clear hRI hKp hK16 hF16 hG16 hX16 hbp16 bE16 bL16 bQ16 bS16 hX13 hK13 hF13 hG13 bL13 bQ13 bE13 bS13 bE15 hbp
          gi_wp2
          exact ⟨HK16.out, ⟨hz16, HKP.out⟩, HRI.out⟩
        · have hok : okW seq (pl, ⟨kd, ld⟩) = false := by rw [HOK'.out]; simp [hs]
          have HF := Lib.hid (HBAD.out hok)
          skip
          have hRX : RX s w S (.exit 0) (pre ++ [⟨(pl, ⟨kd, ld⟩), hpl, hld⟩]) (w2.alloc (.cells #[.int .u64 sq, .slice A2 ps.length c2] 25)) := ⟨rfl, Q, en, A, c, HF.out, by omega, bL.ext hb2a, bE.ext hb2a, hbats.ext hb2a, hX.trans' hb2a⟩
          have hKF : KeepsFrom w0.heap.size W (w2.alloc (.cells #[.int .u64 sq, .slice A2 ps.length c2] 25)) := KeepsFrom.ext hb2a
          have HRX := Lib.hid hRX
          have HKF := Lib.hid hKF
          clear hok hRX hKF HOK' HBAD HN' d4
          gi_wp2
          exact ⟨HKF.out, HRX.out⟩
      · have hok : okW seq (pl, ⟨kd, ld⟩) = false := by rw [HOK'.out]; simp [hn]
        have HF := Lib.hid (HBAD.out hok)
        (have hne : ((no : Int) != 0) = true := by simp; omega)
        have hRX : RX s w S (.exit 0) (pre ++ [⟨(pl, ⟨kd, ld⟩), hpl, hld⟩]) (w2.alloc (.cells #[.int .u64 sq, .slice A2 ps.length c2] 25)) := ⟨rfl, Q, en, A, c, HF.out, by omega, bL.ext hb2a, bE.ext hb2a, hbats.ext hb2a, hX.trans' hb2a⟩
        have hKF : KeepsFrom w0.heap.size W (w2.alloc (.cells #[.int .u64 sq, .slice A2 ps.length c2] 25)) := KeepsFrom.ext hb2a
        have HRX := Lib.hid hRX
        have HKF := Lib.hid hKF
        clear hok hRX hKF HOK' HBAD HN' d4
        gi_wp2
        exact ⟨HKF.out, HRX.out⟩
    · have hok : okW seq (pl, ⟨kd, ld⟩) = false := by rw [HOK'.out]; simp [hk]
      have HF := Lib.hid (HBAD.out hok)
      (have hne : ((kn : Int) != 2) = true := by simp; omega)
      have hRX : RX s w S (.exit 0) (pre ++ [⟨(pl, ⟨kd, ld⟩), hpl, hld⟩]) (w2.alloc (.cells #[.int .u64 sq, .slice A2 ps.length c2] 25)) := ⟨rfl, Q, en, A, c, HF.out, by omega, bL.ext hb2a, bE.ext hb2a, hbats.ext hb2a, hX.trans' hb2a⟩
      have hKF : KeepsFrom w0.heap.size W (w2.alloc (.cells #[.int .u64 sq, .slice A2 ps.length c2] 25)) := KeepsFrom.ext hb2a
      have HRX := Lib.hid hRX
      have HKF := Lib.hid hKF
      clear hok hRX hKF HOK' HBAD HN' d4
      gi_wp2
      exact ⟨HKF.out, HRX.out⟩
  case done =>
    rintro D ys W hD ⟨fin, hfr⟩ ⟨Q, seq, en, A, c, hH, hsq, hQ, hz, bS, bL, bQ, bE, hbats, hX⟩ hK
    have hW := hH.out []
    rw [List.append_nil, runW_eq hfr] at hW
    have hlen := hfr.le (Nat.zero_le _)
    have hys : ys.length ≤ s.length := by have h1 := hlen.2.1; have h2 := hlen.1; simp [faVals] at h1; omega
    have HW : Hid (runR fin ([], 0) (faVals ys) = (Q.map LB.b, en)) := hW
    have l0 := bL.cell 0
    have e0 := bE.cell 0
    simp only [List.getElem?_toArray, List.getElem?_cons_zero, List.getElem?_cons_succ] at l0 e0
    clear hW hlen
    gi_wp2
    refine wpIn_wide.2 ?_
    go_quiet (fail)
    gi_wp2
    rw [Exit.noGoto_ret]
    have hK' : (W.drewN nq).heap[D]? = some (.deferred (some [])) := hK
    have hg := grownBy_putObj' (W.drewN nq) D (.deferred none)
    have hr : ∀ r, some D = some r → ∃ o : Obj, (W.drewN nq).heap[r]? = some o ∧ o.isCells = false := fun r e => by cases e; exact ⟨_, hK', rfl⟩
    have hXd : Ext w (W.drewN nq) := hX.trans' (Fr.ext ((Fr.refl W).drewN nq) (fun _ _ => trivial))
    have hbd := (hbats.fr (S := fun _ => True) ((Fr.refl W).drewN nq) (fun _ _ _ => trivial)).turn hg hr
    refine ⟨by simp, .inl ⟨_, _, rfl, run_takeDeferred hK', ?_⟩⟩
    have hrp := RepPost.mk (s := s) (w := w) hfr HW.out hbd (by omega) (by omega) (hXd.grown hg hXd.size (fun k e => by cases e; omega))
    refine ⟨_, results_tmp2 rfl _ _ _, ?_⟩
    simpa using hrp
  case stop =>
    rintro D cd pre W hD ⟨rest, fin, hfr⟩ ⟨rfl, Q, en, A, c, hH, hQ, bL, bE, hbats, hX⟩ hK
    have hW := hH.out rest
    rw [runW_eq hfr] at hW
    have HW := Lib.hid hW
    have l0 := bL.cell 0
    have e0 := bE.cell 0
    simp only [List.getElem?_toArray, List.getElem?_cons_zero, List.getElem?_cons_succ] at l0 e0
    clear hW
    gi_wp2
    refine wpIn_wide.2 ?_
    go_quiet (fail)
    gi_wp2
    rw [Exit.noGoto_ret]
    have hK' : (W.drewN nq).heap[D]? = some (.deferred (some [])) := hK
    have hg := grownBy_putObj' (W.drewN nq) D (.deferred none)
    have hr : ∀ r, some D = some r → ∃ o : Obj, (W.drewN nq).heap[r]? = some o ∧ o.isCells = false := fun r e => by cases e; exact ⟨_, hK', rfl⟩
    have hXd : Ext w (W.drewN nq) := hX.trans' (Fr.ext ((Fr.refl W).drewN nq) (fun _ _ => trivial))
    have hbd := (hbats.fr (S := fun _ => True) ((Fr.refl W).drewN nq) (fun _ _ _ => trivial)).turn hg hr
    refine ⟨by simp, .inl ⟨_, _, rfl, run_takeDeferred hK', ?_⟩⟩
    have hrp := RepPost.mk (s := s) (w := w) hfr HW.out hbd (by omega) (by omega) (hXd.grown hg hXd.size (fun k e => by cases e; omega))
    refine ⟨_, results_tmp2 rfl _ _ _, ?_⟩
    simpa using hrp
end Go.Proofs.Yteplpgknnlehnaa
