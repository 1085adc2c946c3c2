/- What an edit's bytes say (layer 10): the program's walk. -/
import Derived.Test.YteplpgknnlehnaaManDec
import Derived.Test.YteplpgknnlehnaaTaker2
import Derived.Test.YteplpgknnlehnaaMan8
namespace Go.Proofs.Yteplpgknnlehnaa
set_option linter.unusedSimpArgs false
set_option linter.unusedVariables false
open Go.RowKit

theorem tableOf_mk {bn bl bs bc : Nat} {s0 s1 s2 s3 s4 s5 s6 : Rd} {n1 n2 n3 n4 : Nat} {t5 t6 : List UInt8} (h1 : readUint bn s0 = (n1, s1)) (h2 : readUint bl s1 = (n2, s2)) (h3 : readUint bs s2 = (n3, s3)) (h4 : readUint bc s3 = (n4, s4))
    (h5 : readText 96 s4 = (t5, s5)) (h6 : readText 96 s5 = (t6, s6)) : tableOf bn bl bs bc s0 = (⟨n1, (n2 : Nat), (n3 : Nat), (n4 : Nat), t5, t6⟩, s6) := by
  simp [tableOf, h1, h2, h3, h4, h5, h6]
theorem iter_next {α : Type} {f : Rd → α × Rd} {k : Nat} {s0 s s' : Rd} {xs : List α} {x : α} (h : iter f k s0 = (xs, s)) (hx : f s = (x, s')) : iter f (k + 1) s0 = (xs ++ [x], s') := by
  simp [iter, h, hx]

theorem EditAt.none (w : World) : EditAt w w.heap.size noEdit none none := ⟨Row.nil_, Row.nil_⟩
def pairVal (e : Edit) (A A' : Option Addr) (c c' : Nat) (n : Int) : Value := .tuple #[e.val A A' c c', .int .i64 n]

/-- what a reading ends with -/
def DecPost (r : Edit × Int) (w : World) (e : Ending) (w' : World) : Prop := ∃ A A' c c', e = .returned (pairVal r.1 A A' c c' r.2) ∧ EditAt w' w'.heap.size r.1 A A' ∧ Ext w w'
theorem DecPost.mk {e : Edit} {n : Int} {w w' : World} {A A' : Option Addr} {c c' : Nat} (h : EditAt w' w'.heap.size e A A') (hX : Ext w w') : DecPost (e, n) w (.returned (pairVal e A A' c c' n)) w' := ⟨A, A', c, c', rfl, h, hX⟩
theorem dec_ret {fn : Func} {R : Ending → World → Prop} {a : Act} {W : World} {S : Nat} {v0 v1 v2 v3 v4 : Value} {n : Int} (hres : fn.results = #[.cell 2 35, .tmp 3]) (h2 : a.tmps.getD 2 undef = .pointer (some ⟨S, 0, none⟩)) (h3 : a.tmps.getD 3 undef = .int .i64 n)
    (hd : a.defers = []) (bZ : Box W S 35 #[v0, v1, v2, v3, v4]) (h : R (.returned (.tuple #[.agg #[v0, v1, v2, v3, v4], .int .i64 n])) W) : bodyPost Try.prog fn R .ret a W := by
  have z0 := bZ.cell 0
  have z1 := bZ.cell 1
  have z2 := bZ.cell 2
  have z3 := bZ.cell 3
  have z4 := bZ.cell 4
  simp only [List.getElem?_toArray, List.getElem?_cons_zero, List.getElem?_cons_succ] at z0 z1 z2 z3 z4
  have h2' : a.tmps[2]?.getD undef = .pointer (some ⟨S, 0, none⟩) := by simpa using h2
  have h3' : a.tmps[3]?.getD undef = .int .i64 n := by simpa using h3
  refine bodyPost_ret ?_ hd h
  simp [results, hres, h2', h3', go_sem, z0, z1, z2, z3, z4]
/-- five stores into the result -/
theorem Box.put5 {w : World} {g : Nat} {t : TypeId} {u0 u1 u2 u3 u4 : Value} (h : Box w g t #[u0, u1, u2, u3, u4]) (v0 v1 v2 v3 v4 : Value) :
    Box (((((w.setCell ⟨g, 0, none⟩ v0).setCell ⟨g, 1, none⟩ v1).setCell ⟨g, 2, none⟩ v2).setCell ⟨g, 3, none⟩ v3).setCell ⟨g, 4, none⟩ v4) g t #[v0, v1, v2, v3, v4] := by
  have := ((((h.put 0 v0).put 1 v1).put 2 v2).put 3 v3).put 4 v4
  simpa only [List.setIfInBounds_toArray, List.set_cons_zero, List.set_cons_succ] using this
theorem Below.put5 {B : Nat} {w w' : World} (h : Below B w w') {g : Nat} (hg : B ≤ g) (v0 v1 v2 v3 v4 : Value) :
    Below B w (((((w'.setCell ⟨g, 0, none⟩ v0).setCell ⟨g, 1, none⟩ v1).setCell ⟨g, 2, none⟩ v2).setCell ⟨g, 3, none⟩ v3).setCell ⟨g, 4, none⟩ v4) :=
  ((((h.setCell (p := ⟨g, 0, none⟩) hg v0).setCell (p := ⟨g, 1, none⟩) hg v1).setCell (p := ⟨g, 2, none⟩) hg v2).setCell (p := ⟨g, 3, none⟩) hg v3).setCell (p := ⟨g, 4, none⟩) hg v4
theorem Row.put5 {w : World} {lo hi sz n : Nat} {A : Option Addr} {xs : List Value} (h : Row w lo hi sz A n xs) {g : Nat} (hg : g < lo) (hh : hi ≤ w.heap.size) (v0 v1 v2 v3 v4 : Value) :
    Row (((((w.setCell ⟨g, 0, none⟩ v0).setCell ⟨g, 1, none⟩ v1).setCell ⟨g, 2, none⟩ v2).setCell ⟨g, 3, none⟩ v3).setCell ⟨g, 4, none⟩ v4) 0
      (((((w.setCell ⟨g, 0, none⟩ v0).setCell ⟨g, 1, none⟩ v1).setCell ⟨g, 2, none⟩ v2).setCell ⟨g, 3, none⟩ v3).setCell ⟨g, 4, none⟩ v4).heap.size sz A n xs :=
  (((((h.setCell (p := ⟨g, 0, none⟩) (.inl hg) v0).setCell (p := ⟨g, 1, none⟩) (.inl hg) v1).setCell (p := ⟨g, 2, none⟩) (.inl hg) v2).setCell (p := ⟨g, 3, none⟩) (.inl hg) v3).setCell (p := ⟨g, 4, none⟩) (.inl hg) v4).wide (Nat.zero_le _) (by simpa using hh)

set_option maxRecDepth 100000 in
set_option maxHeartbeats 800000 in
theorem decodeEdit_any (l : List UInt8) (hl : l.length ≤ 1099511627776) (w : World) :
    Calls Try.prog 21 #[str l] w (DecPost (decodeEdit l) w) := by
  by_cases hlen : 262144 < l.length
  · have hd : decodeEdit l = (noEdit, 3) := by rw [decodeEdit, editEnd, if_pos (by simp [hlen])]
    rw [hd]
    go_enter Try.func21, Try.ntmps21
    go_wp2
    exact dec_ret rfl rfl rfl rfl (Box.new w _ _) (DecPost.mk (A := none) (A' := none) (c := 0) (c' := 0) (EditAt.none _) (by (repeat (first | exact Below.refl _ _ | refine Ext.trans' ?_ (Ext.al _ _) | refine Ext.trans' ?_ (Ext.dr _) | refine Ext.trans' ?_ (by assumption)))))
  · have hwl : l.length ≤ 262144 := by omega
    have HD : Hid (decodeEdit l = editEnd l (pEdit (l, false))) := rfl
    clear hlen
    go_enter Try.func21, Try.ntmps21
    go_wp2_with fail
    obtain ⟨S, hS⟩ : ∃ S, w.heap.size = S := ⟨_, rfl⟩
    obtain ⟨w0, hw0⟩ : ∃ w0, w0 = (w.alloc (.cells #[.int .u64 0, .int .u64 0, .int .u64 0, .slice none 0 0, .slice none 0 0] 35)).alloc (.cells #[str l, .bool false] 89) := ⟨_, rfl⟩
    have bR0 : Box w0 S 35 #[.int .u64 0, .int .u64 0, .int .u64 0, .slice none 0 0, .slice none 0 0] := by rw [hw0]; exact (Box.new_at _ _ _ _ hS.symm).alloc _
    have bG0 : Box w0 (S + 1) 89 #[str (l, false).1, .bool (l, false).2] := by rw [hw0]; exact Box.new_at _ _ _ _ (by simp [hS])
    have hE0 : Ext w w0 := by rw [hw0]; (repeat (first | exact Below.refl _ _ | refine Ext.trans' ?_ (Ext.al _ _) | refine Ext.trans' ?_ (Ext.dr _) | refine Ext.trans' ?_ (by assumption)))
    rw [hS, ← hw0]
    clear hw0
    refine (takerUint_st (S + 1) (l, false) (by simp; omega) w0 bG0).mono ?_
    rintro _ w1 ⟨n1, s1, H1, hn1, hl1, rfl, bG1, hc1⟩
    dsimp only at hl1
    go_wp2_with fail
    refine (takerUint_st (S + 1) s1 (by omega) w1 bG1).mono ?_
    rintro _ w2 ⟨n2, s2, H2, hn2, hl2, rfl, bG2, hc2⟩
    go_wp2_with fail
    refine (takerUint_st (S + 1) s2 (by omega) w2 bG2).mono ?_
    rintro _ w3 ⟨n3, s3, H3, hn3, hl3, rfl, bG3, hc3⟩
    have hc := (hc1.trans hc2).trans hc3
    have bR3 := bR0.fr hc (by omega)
    have hE3 := Fr.ext ((Fr.of_ext (S := fun x => x < S) hE0).step hc (by omega)) (by omega)
    clear hc1 hc2 hc3 hc bR0 bG0 bG1 bG2 hE0
    go_wp2_with fail
    obtain ⟨E, hE⟩ : ∃ E, w3.heap.size = E := ⟨_, rfl⟩
    have hSE : S + 1 < E := by have := bG3.lt; omega
    (obtain ⟨w4, hw4⟩ : ∃ w4, w4 = World.alloc w3 (.cells #[.int .u64 n1, .int .u64 n2, .int .u64 n3, .slice none 0 0, .slice none 0 0] 35) := ⟨_, rfl⟩); (have hbox_w4 : Box w4 (w3).heap.size 35 #[.int .u64 n1, .int .u64 n2, .int .u64 n3, .slice none 0 0, .slice none 0 0] := by rw [hw4]; exact Box.new _ _ _); (have hE_w4 : Ext w3 w4 := by rw [hw4]; exact Ext.al _ _); (have hz_w4 : (w4).heap.size = (w3).heap.size + 1 := by rw [hw4]; simp); rw [← hw4]; clear hw4
    rw [hE] at hbox_w4 ⊢
    refine (takerMany_st (S + 1) s3 (by omega) w4 (bG3.ext hE_w4)).mono ?_
    rintro _ w5 ⟨m, s4, H4, hm, hl4, rfl, bG5, hc5⟩
    have bE5 := hbox_w4.fr hc5 (by omega)
    have bR5 := (bR3.ext hE_w4).fr hc5 (by omega)
    have hE5 := Fr.ext ((Fr.of_ext (S := fun x => x < S) (hE3.trans' hE_w4)).step hc5 (by omega)) (by omega)
    clear hc5 bR3 bG3 hbox_w4 hE_w4 hz_w4 hE3
    go_wp2_with fail
    go_loopw [23] (fun v wr => ∃ (k : Nat) (xs : List Table) (st : Rd) (A : Option Addr) (c : Nat), k ≤ m ∧ v = .int .u64 k ∧ Hid (iter pTable k s4 = (xs, st)) ∧ st.1.length ≤ 262144 ∧ Box wr (S + 1) 89 #[str st.1, .bool st.2] ∧
      Box wr S 35 #[.int .u64 0, .int .u64 0, .int .u64 0, .slice none 0 0, .slice none 0 0] ∧
      Box wr E 35 #[.int .u64 n1, .int .u64 n2, .int .u64 n3, .slice A xs.length c, .slice none 0 0] ∧ Own wr (E + 1) 53 Table.cells 6 A c xs ∧ Ext w wr) (fun v _ => m - (intOf v).toNat)
    · exact ⟨0, [], s4, none, 0, by omega, rfl, rfl, by omega, bG5, bR5, bE5, Own.nil_, hE5⟩
    · clear bG5 bR5 bE5 hE5
      obtain ⟨k, xs, st, A, c, hk, rfl, hit, hlst, bG, bR, bE, hown, hX⟩ := hrel
      have hxl := iter_len pTable k s4
      rw [hit.out] at hxl
      dsimp only at hxl
      have hx1 : xs.length ≤ k := by omega
      have hx2 : k ≤ xs.length := by omega
      clear hxl
      by_cases hlt : k < m
      · go_wp2_with fail
        refine (takerUint_st (S + 1) st (by omega) wr bG).mono ?_
        rintro _ wa ⟨a1, r1, J1, ha1, hr1, rfl, bGa, hca⟩
        go_wp2_with fail
        refine (takerUint_st (S + 1) r1 (by omega) wa bGa).mono ?_
        rintro _ wb ⟨a2, r2, J2, ha2, hr2, rfl, bGb, hcb⟩
        go_wp2_with fail
        refine (takerUint_st (S + 1) r2 (by omega) wb bGb).mono ?_
        rintro _ wc ⟨a3, r3, J3, ha3, hr3, rfl, bGc, hcc⟩
        go_wp2_with fail
        refine (takerUint_st (S + 1) r3 (by omega) wc bGc).mono ?_
        rintro _ wd ⟨a4, r4, J4, ha4, hr4, rfl, bGd, hcd⟩
        go_wp2_with fail
        obtain ⟨T, hT⟩ : ∃ T, wd.heap.size = T := ⟨_, rfl⟩
        have hcT : Chg (S + 1) wr wd := ((hca.trans hcb).trans hcc).trans hcd
        have hET : E < T := by have := (bE.fr hcT (by omega)).lt; omega
        (obtain ⟨we, hwe⟩ : ∃ we, we = World.alloc wd (.cells #[.int .u64 a1, .int .i64 a2, .int .i64 a3, .int .i64 a4, str [], str []] 53) := ⟨_, rfl⟩); (have hbox_we : Box we (wd).heap.size 53 #[.int .u64 a1, .int .i64 a2, .int .i64 a3, .int .i64 a4, str [], str []] := by rw [hwe]; exact Box.new _ _ _); (have hE_we : Ext wd we := by rw [hwe]; exact Ext.al _ _); (have hz_we : (we).heap.size = (wd).heap.size + 1 := by rw [hwe]; simp); rw [← hwe]; clear hwe
        rw [hT] at hbox_we ⊢
        refine (takerText_st (S + 1) r4 (by omega) we (bGd.ext hE_we)).mono ?_
        rintro _ wf ⟨t5, r5, J5, ha5, hr5, rfl, bGf, hcf⟩
        go_wp2_with fail
        refine (takerText_st (S + 1) r5 (by omega) wf bGf).mono ?_
        rintro _ wg ⟨t6, r6, J6, ha6, hr6, rfl, bGg, hcg⟩
        have bT := (hbox_we.fr hcf (by omega)).fr hcg (by omega)
        have hcA : Chg (S + 1) wr wg := ((hcT.ext_step hE_we).trans hcf).trans hcg
        have bRg := bR.fr hcA (by omega)
        have bEg := bE.fr hcA (by omega)
        have hog := hown.fr hcA (fun b hb _ => by omega)
        have hXg := Fr.ext ((Fr.of_ext (S := fun x => x < S) hX).step hcA (by omega)) (by omega)
        have HIT := Lib.hid (iter_next hit.out (tableOf_mk J1.out J2.out J3.out J4.out J5.out J6.out))
        have hAT : ownBlk A ≠ some T := fun e => by have := hown.blk T e; have := hcT.size; omega
        clear hca hcb hcc hcd hcT hcf hcg hcA bG bR bE hown hX bGa bGb bGc bGd bGf hbox_we hE_we hz_we J1 J2 J3 J4 J5 J6 hit
        have q1 : E ≠ T := by omega
        have q2 : S ≠ T := by omega
        have q3 : S + 1 ≠ T := by omega
        have bT1 := (bT.put 4 (str t5)).put 5 (str t6)
        simp only [List.setIfInBounds_toArray, List.set_cons_zero, List.set_cons_succ] at bT1
        have bE1 := (bEg.far (p := ⟨T, 4, none⟩) q1 (str t5)).far (p := ⟨T, 5, none⟩) q1 (str t6)
        have bR1 := (bRg.far (p := ⟨T, 4, none⟩) q2 (str t5)).far (p := ⟨T, 5, none⟩) q2 (str t6)
        have bG1 := (bGg.far (p := ⟨T, 4, none⟩) q3 (str t5)).far (p := ⟨T, 5, none⟩) q3 (str t6)
        have ho1 := (hog.setCell (p := ⟨T, 4, none⟩) hAT (str t5)).setCell (p := ⟨T, 5, none⟩) hAT (str t6)
        have hX1 := (hXg.setCell (p := ⟨T, 4, none⟩) (by simp; omega) (str t5)).setCell (p := ⟨T, 5, none⟩) (by simp; omega) (str t6)
        have x0 := bT1.cell 0
        have x1 := bT1.cell 1
        have x2 := bT1.cell 2
        have x3 := bT1.cell 3
        have x4 := bT1.cell 4
        have x5 := bT1.cell 5
        have y3 := bE1.cell 3
        have z4 := bT.cell 4
        have z5 := bT.cell 5
        have zf := bT.frozen
        simp only [List.getElem?_toArray, List.getElem?_cons_zero, List.getElem?_cons_succ] at x0 x1 x2 x3 x4 x5 y3 z4 z5
        clear bT bEg bRg bGg hog hXg
        go_wp2_with (at_builtin; refine wpList_push Try.tablesOf rfl _ _ rfl (⟨a1, a2, a3, a4, t5, t6⟩ : Table) rfl ho1 rfl (by first | rfl | (simp; done) | (simp; rfl)) rfl (Table.cells_len _) (Table.one _) (by omega) (by omega) (by have := bT1.lt; omega) ?_)
        rintro A' c' w10 hown' hg
        have hne : ∀ g, ownBlk A = some g → E + 1 ≤ g := fun g e => (ho1.blk g e).1
        have bE2 := (bE1.alloc (.cells (⟨a1, a2, a3, a4, t5, t6⟩ : Table).cells.toArray 53)).grown hg (fun e => by have := hne _ e.symm; omega)
        have bR2 := (bR1.alloc (.cells (⟨a1, a2, a3, a4, t5, t6⟩ : Table).cells.toArray 53)).grown hg (fun e => by have := hne _ e.symm; omega)
        have bG2 := (bG1.alloc (.cells (⟨a1, a2, a3, a4, t5, t6⟩ : Table).cells.toArray 53)).grown hg (fun e => by have := hne _ e.symm; omega)
        have hX2 := ho1.below_push hX1 (by omega) hX1.size hg
        clear bE1 bR1 bG1 bT1 ho1 hX1 hg hne x0 x1 x2 x3 x4 x5 y3 z4 z5 zf
        have y3 := bE2.cell 3
        have yf := bE2.frozen
        simp only [List.getElem?_toArray, List.getElem?_cons_zero, List.getElem?_cons_succ] at y3
        go_wp2
        have bE3 := bE2.put 3 (.slice A' (xs.length + 1) c')
        simp only [List.setIfInBounds_toArray, List.set_cons_zero, List.set_cons_succ] at bE3
        exact ⟨⟨k + 1, xs ++ [⟨a1, a2, a3, a4, t5, t6⟩], r6, A', c', by omega, by simp, HIT, by omega, bG2.far (p := ⟨E, 3, none⟩) (by simp; omega) _, bR2.far (p := ⟨E, 3, none⟩) (by simp; omega) _, by rw [List.length_append]; exact bE3,
          hown'.setCell (p := ⟨E, 3, none⟩) (fun e => by have := (hown'.blk E e).1; omega) _, hX2.setCell (p := ⟨E, 3, none⟩) (by simp; omega) _⟩, by simp [intOf]; omega⟩
      · obtain rfl : k = m := by omega
        clear hlt hk
        go_wp2_with fail
        refine (takerMany_st (S + 1) st (by omega) wr bG).mono ?_
        rintro _ w6 ⟨m2, s6, H6, hm2, hl6, rfl, bG6, hc6⟩
        have bE6 := bE.fr hc6 (by omega)
        have bR6 := bR.fr hc6 (by omega)
        have hX6 := Fr.ext ((Fr.of_ext (S := fun x => x < S) hX).step hc6 (by omega)) (by omega)
        have hr6 := (hown.fr hc6 (fun b hb _ => by omega)).row
        obtain ⟨B, hB⟩ : ∃ B, w6.heap.size = B := ⟨_, rfl⟩
        have hEB : E < B := by have := bE6.lt; omega
        rw [hB] at hr6
        clear bG bE bR hown hX hc6
        go_wp2_with fail
        go_loopw [52] (fun v wr => ∃ (k : Nat) (ds : List Nat) (st : Rd) (A' : Option Addr) (c' : Nat), k ≤ m2 ∧ v = .int .u64 k ∧ Hid (iter uint62 k s6 = (ds, st)) ∧ st.1.length ≤ 262144 ∧ Box wr (S + 1) 89 #[str st.1, .bool st.2] ∧
          Box wr S 35 #[.int .u64 0, .int .u64 0, .int .u64 0, .slice none 0 0, .slice none 0 0] ∧
          Box wr E 35 #[.int .u64 n1, .int .u64 n2, .int .u64 n3, .slice A xs.length c, .slice A' ds.length c'] ∧ Own wr B 22 u64C 1 A' c' ds ∧ Row wr (E + 1) B 6 A xs.length (xs.flatMap Table.cells) ∧ B ≤ wr.heap.size ∧ Ext w wr) (fun v _ => m2 - (intOf v).toNat)
        · exact ⟨0, [], s6, none, 0, by omega, rfl, rfl, by omega, bG6, bR6, bE6, Own.nil_, hr6, by omega, hX6⟩
        · clear bG6 bR6 bE6 hr6 hX6
          obtain ⟨j, ds, st', A', c', hj, rfl, hit', hlst', bG, bR, bE, hown, hrow, hBw, hX⟩ := hrel
          have hxl := iter_len uint62 j s6
          rw [hit'.out] at hxl
          dsimp only at hxl
          have hx3 : ds.length ≤ j := by omega
          have hx4 : j ≤ ds.length := by omega
          clear hxl
          have y0 := bE.cell 0
          have y1 := bE.cell 1
          have y2 := bE.cell 2
          have y3 := bE.cell 3
          have y4 := bE.cell 4
          have yf := bE.frozen
          simp only [List.getElem?_toArray, List.getElem?_cons_zero, List.getElem?_cons_succ] at y0 y1 y2 y3 y4
          by_cases hlt : j < m2
          · go_wp2_with fail
            refine wp_region_sch (RS ((· = E))) 7 [(0, true), (1, true), (2, true), (3, false), (4, false), (5, false), (6, true), (7, false)] (by kernel_rfl) (by kernel_rfl) RS.refl RS.trans (fun _ _ d _ _ h => by cases d <;> exact h) ?_
            refine wpSch_q ?_ rfl rfl (fun w' hR => ?_) ?_
            rotate_left
            · (go_simp; first | rfl | rw [if_neg (by simp; omega)] | rw [if_neg (by omega)])
            (try simp only [Act.put, List.setIfInBounds_toArray, List.set_cons_zero, List.set_cons_succ])
            refine wpSch_q ?_ rfl rfl (fun w' hR => ?_) ?_
            rotate_left
            · (obtain ⟨hRs, hRc⟩ := hR; (try have hRd := fun o => hRc _ o rfl (by first | (simp; done) | (simp; omega) | omega)); (try have hRe := fun o => hRc _ o (Or.inl rfl) (by first | (simp; done) | (simp; omega) | omega)); (try have hRf := fun o => hRc _ o (Or.inr rfl) (by first | (simp; done) | (simp; omega) | omega)); (try have hRg := fun o => hRc _ o (Or.inr (Or.inl rfl)) (by first | (simp; done) | (simp; omega) | omega)); (try have hRh := fun o => hRc _ o (Or.inr (Or.inr rfl)) (by first | (simp; done) | (simp; omega) | omega)); go_simp; first | rfl | rw [if_neg (by simp; omega)] | rw [if_neg (by omega)])
            (try simp only [Act.put, List.setIfInBounds_toArray, List.set_cons_zero, List.set_cons_succ])
            refine wpSch_q ?_ rfl rfl (fun w' hR => ?_) ?_
            rotate_left
            · (go_simp; first | rfl | rw [if_neg (by simp; omega)] | rw [if_neg (by omega)])
            (try simp only [Act.put, List.setIfInBounds_toArray, List.set_cons_zero, List.set_cons_succ])
            refine wpSch_e rfl rfl (fun K hK => ?_)
            go_simp
            refine (takerUint_st (S + 1) st' (by omega) _ bG.drew).mono ?_
            rintro e wa ⟨d1, r1, J1, hd1, hr1, rfl, bGa, hca⟩
            refine hK _ _ (fun _ => RS.fr hca (by omega)) ?_
            clear hK K
            (try simp only [Act.put, List.setIfInBounds_toArray, List.set_cons_zero, List.set_cons_succ])
            have hcw : Chg (S + 1) wr wa := ((Fr.refl wr).drew).trans hca
            refine wpSch_e rfl rfl (fun K hK => ?_)
            go_simp
            refine hK _ _ (fun _ => RS.alloc _) ?_
            clear hK K
            (try simp only [Act.put, List.setIfInBounds_toArray, List.set_cons_zero, List.set_cons_succ])
            refine wpSch_e rfl rfl (fun K hK => ?_)
            (refine wp_push Try.numbersOf _ _ rfl d1 rfl (hown.fr hcw (fun b hb _ => by omega)) rfl rfl rfl (u64C_len _) (u64C_one _) (by omega) (by omega) (by have := hcw.size; omega) ?_; rintro A'' c'' w10 hown' hg)
            refine hK _ _ (fun _ => RS.fr (S' := (· = E)) (Fr.of_grown hg (fun g e _ => by have := (hown.blk g e).1; omega)) (fun _ _ h => h)) ?_
            clear hK K
            (try simp only [Act.put, List.setIfInBounds_toArray, List.set_cons_zero, List.set_cons_succ])
            (have hcx : Fr (fun b => b ≠ S + 1 ∧ b < B) wr w10 := ((hcw.mono (fun _ _ h => h.1)).alloc _).grown_step hg (fun g e _ h => by have := (hown.blk g e).1; omega); have bE2 := bE.fr hcx (by omega); have bR2 := bR.fr hcx (by omega); have bG2 := (bGa.alloc (.cells (u64C d1).toArray 22)).grown hg (fun e => by have := (hown.blk _ e.symm).1; omega); have hrow2 := hrow.fr hcx hBw (fun b _ _ => by omega); have hX2 := Fr.ext ((Fr.of_ext (S := fun x => x < S) hX).step hcx (by omega)) (by omega); have hBw2 := Nat.le_trans hBw hcx.size; clear bG bR bE hown hrow hX bGa hca hcw hcx y0 y1 y2 y3 y4 yf; have yf := bE2.frozen; have y4 := bE2.cell 4; simp only [List.getElem?_toArray, List.getElem?_cons_zero, List.getElem?_cons_succ] at y4)
            refine wpSch_q ?_ rfl rfl (fun w' hR => ?_) ?_
            rotate_left
            · (go_simp; first | rfl | rw [if_neg (by simp; omega)] | rw [if_neg (by omega)])
            (try simp only [Act.put, List.setIfInBounds_toArray, List.set_cons_zero, List.set_cons_succ])
            refine wpSch_e rfl rfl (fun K hK => ?_)
            go_simp
            refine hK _ _ (fun h => absurd rfl h) ?_
            clear hK K
            (try simp only [Act.put, List.setIfInBounds_toArray, List.set_cons_zero, List.set_cons_succ])
            refine wpSch_nil ?_
            have bE3 := bE2.put 4 (.slice A'' (ds.length + 1) c'')
            simp only [List.setIfInBounds_toArray, List.set_cons_zero, List.set_cons_succ] at bE3
            have HIT := Lib.hid (iter_next hit'.out J1.out)
            clear bE2
            go_wp2
            exact ⟨⟨j + 1, ds ++ [d1], r1, A'', c'', by omega, by simp, HIT, by omega, bG2.far (p := ⟨E, 4, none⟩) (by simp; omega) _, bR2.far (p := ⟨E, 4, none⟩) (by simp; omega) _, by rw [List.length_append]; exact bE3,
              hown'.setCell (p := ⟨E, 4, none⟩) (fun e => by have := (hown'.blk E e).1; omega) _, hrow2.setCell (p := ⟨E, 4, none⟩) (by simp) _, by simpa using hBw2, hX2.setCell (p := ⟨E, 4, none⟩) (by simp; omega) _⟩, by simp [intOf]; omega⟩
          · obtain rfl : j = m2 := by omega
            clear hlt hj
            have hpe : pEdit (l, false) = (⟨n1, n2, n3, xs, ds⟩, st') := by
              unfold pEdit editOf
              dsimp only
              rw [show uint62 (l, false) = (n1, s1) from H1.out]; dsimp only
              rw [show uint62 s1 = (n2, s2) from H2.out]; dsimp only
              rw [show uint62 s2 = (n3, s3) from H3.out]; dsimp only
              rw [H4.out]; dsimp only
              rw [hit.out]; dsimp only
              rw [H6.out]; dsimp only
              rw [hit'.out]
            have ht : ∀ t ∈ xs, t.Ok := by
              have := iter_all (f := pTable) (p := Table.Ok) (tableOf_ok (by omega) (by omega) (by omega) (by omega)) k s4
              rw [hit.out] at this
              exact this
            have hd : ∀ n ∈ ds, n < M64 := by
              have := iter_all (f := uint62) (p := (· < M64)) uint62_lt j s6
              rw [hit'.out] at this
              exact this
            have hok : (⟨n1, n2, n3, xs, ds⟩ : Edit).Ok := ⟨by unfold M64; dsimp only; omega, by unfold M64; dsimp only; omega, by unfold M64; dsimp only; omega, ht, hd, by dsimp only; omega, by dsimp only; omega⟩
            have hat : EditAt wr wr.heap.size ⟨n1, n2, n3, xs, ds⟩ A A' := ⟨hrow.wide (by omega) hBw, hown.row.wide (by omega) (Nat.le_refl _)⟩
            have hDD := HD.out
            rw [hpe] at hDD
            have HDD := Lib.hid hDD
            have HRA := Lib.hid (hrow.wide (Nat.le_refl _) hBw)
            have HRD := Lib.hid (hown.row.wide (by omega : E + 1 ≤ B) (Nat.le_refl _))
            have HMY := Lib.hid (editMay_any ⟨n1, n2, n3, xs, ds⟩ hok A A' c c' wr hat)
            clear hpe ht hd hok hat hDD HD H1 H2 H3 H4 hit H6 hit' hown hrow
            have r0 := bR.cell 0
            have r1 := bR.cell 1
            have r2 := bR.cell 2
            have r3 := bR.cell 3
            have r4 := bR.cell 4
            have rf := bR.frozen
            have g0 := bG.cell 0
            have g1 := bG.cell 1
            simp only [List.getElem?_toArray, List.getElem?_cons_zero, List.getElem?_cons_succ] at r0 r1 r2 r3 r4 g0 g1
            obtain ⟨sl, sb⟩ := st'
            dsimp only at *
            have hend : (sb || !sl.isEmpty || !(⟨n1, n2, n3, xs, ds⟩ : Edit).may) = true → decodeEdit l = (noEdit, 3) := fun h => by
              rw [HDD.out, editEnd]; dsimp only; rw [h]; simp
            have hgood : sb = false → sl = [] → (⟨n1, n2, n3, xs, ds⟩ : Edit).may = true → decodeEdit l = (⟨n1, n2, n3, xs, ds⟩, 0) := fun h1 h2 h3 => by
              rw [HDD.out, editEnd, if_neg (by simp [h1, h2, h3]; omega)]
            have HEND := Lib.hid hend
            have HGOOD := Lib.hid hgood
            clear hend hgood HDD
            cases sb with
            | true =>
              (try dsimp only); (repeat (first | go_values | go_skip | go_guarded | go_step | go_upon)); (try simp only [Exit.inBlock, Exit.then])
              exact dec_ret rfl rfl rfl rfl (bR.put5 _ _ _ _ _) (by rw [HEND.out (by simp)]; exact (DecPost.mk (A := none) (A' := none) (c := 0) (c' := 0) (EditAt.none _) (Below.put5 hX (Nat.le_of_eq hS) _ _ _ _ _)))
            | false =>
              cases sl with
              | cons b sl =>
                (try dsimp only); (repeat (first | go_values | go_skip | go_guarded | go_step | go_upon)); (try simp only [Exit.inBlock, Exit.then])
                exact dec_ret rfl rfl rfl rfl (bR.put5 _ _ _ _ _) (by rw [HEND.out (by simp)]; exact (DecPost.mk (A := none) (A' := none) (c := 0) (c' := 0) (EditAt.none _) (Below.put5 hX (Nat.le_of_eq hS) _ _ _ _ _)))
              | nil =>
                clear y0 y1 y2 y3 y4
                have y0 := bE.cell 0
                have y1 := bE.cell 1
                have y2 := bE.cell 2
                have y3 := bE.cell 3
                have y4 := bE.cell 4
                simp only [List.getElem?_toArray, List.getElem?_cons_zero, List.getElem?_cons_succ] at y0 y1 y2 y3 y4
                go_wp2_with fail
                refine HMY.out.mono ?_
                rintro _ w7 ⟨rfl, hb7⟩
                have bR7 := bR.ext hb7
                have bE7 := bE.ext hb7
                have hX7 := hX.trans' hb7
                have HRA7 := Lib.hid (HRA.out.below hb7 (Nat.le_refl _))
                have HRD7 := Lib.hid (HRD.out.below hb7 (Nat.le_refl _))
                have hz7 := hb7.size
                clear bR bE hX r0 r1 r2 r3 r4 rf y0 y1 y2 y3 y4 yf g0 g1
                have y0 := bE7.cell 0
                have y1 := bE7.cell 1
                have y2 := bE7.cell 2
                have y3 := bE7.cell 3
                have y4 := bE7.cell 4
                have r0 := bR7.cell 0
                have r1 := bR7.cell 1
                have r2 := bR7.cell 2
                have r3 := bR7.cell 3
                have r4 := bR7.cell 4
                have rf := bR7.frozen
                simp only [List.getElem?_toArray, List.getElem?_cons_zero, List.getElem?_cons_succ] at y0 y1 y2 y3 y4 r0 r1 r2 r3 r4
                cases hmay : (⟨n1, n2, n3, xs, ds⟩ : Edit).may with
                | false =>
                  (try dsimp only); (repeat (first | go_values | go_skip | go_guarded | go_step | go_upon)); (try simp only [Exit.inBlock, Exit.then])
                  exact dec_ret rfl rfl rfl rfl (bR7.put5 _ _ _ _ _) (by rw [HEND.out (by simp [hmay])]; exact (DecPost.mk (A := none) (A' := none) (c := 0) (c' := 0) (EditAt.none _) (Below.put5 hX7 (Nat.le_of_eq hS) _ _ _ _ _)))
                | true =>
                  (try dsimp only); (repeat (first | go_values | go_skip | go_guarded | go_step | go_upon)); (try simp only [Exit.inBlock, Exit.then])
                  exact dec_ret rfl rfl rfl rfl (bR7.put5 _ _ _ _ _) (by rw [HGOOD.out (by first | trivial | rfl) (by first | trivial | rfl) (by first | trivial | exact hmay)]; exact (DecPost.mk (e := ⟨n1, n2, n3, xs, ds⟩) ⟨HRA7.out.put5 (by omega) hz7 _ _ _ _ _, HRD7.out.put5 (by omega) hz7 _ _ _ _ _⟩ (Below.put5 hX7 (Nat.le_of_eq hS) _ _ _ _ _)))
end Go.Proofs.Yteplpgknnlehnaa
