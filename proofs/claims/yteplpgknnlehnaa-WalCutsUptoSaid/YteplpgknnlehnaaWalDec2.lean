/- What a batch's bytes say (layer 5): the program's walk. -/
import Derived.Test.YteplpgknnlehnaaWalDec
import Derived.Test.YteplpgknnlehnaaWal3
namespace Go.Proofs.Yteplpgknnlehnaa
set_option linter.unusedSimpArgs false
set_option linter.unusedVariables false
open Go.RowKit

/-- what a reading ends with -/
def BatPost (r : Batch × Int) (w : World) (e : Ending) (w' : World) : Prop :=
  ∃ A c, e = .returned (.tuple #[.agg #[.int .u64 r.1.seq, .slice A r.1.puts.length c], .int .i64 r.2]) ∧ Row w' w.heap.size w'.heap.size 3 A r.1.puts.length (r.1.puts.flatMap Put.cells) ∧ Ext w w'
theorem BatPost.mk {b : Batch} {n : Int} {w w' : World} {A : Option Addr} {c : Nat} (h : Row w' w.heap.size w'.heap.size 3 A b.puts.length (b.puts.flatMap Put.cells)) (hX : Ext w w') :
    BatPost (b, n) w (.returned (.tuple #[.agg #[.int .u64 b.seq, .slice A b.puts.length c], .int .i64 n])) w' := ⟨A, c, rfl, h, hX⟩
theorem BatPost.none {n : Int} {w w' : World} (hX : Ext w w') : BatPost (noBatch, n) w (.returned (.tuple #[.agg #[.int .u64 0, .slice none 0 0], .int .i64 n])) w' := ⟨_, 0, rfl, Row.nil_, hX⟩

theorem bat_ret {fn : Func} {R : Ending → World → Prop} {a : Act} {W : World} {S : Nat} {v0 v1 : Value} {n : Int} (hres : fn.results = #[.cell 2 25, .tmp 3]) (h2 : a.tmps.getD 2 undef = .pointer (some ⟨S, 0, none⟩)) (h3 : a.tmps.getD 3 undef = .int .i64 n)
    (hd : a.defers = []) (bZ : Box W S 25 #[v0, v1]) (h : R (.returned (.tuple #[.agg #[v0, v1], .int .i64 n])) W) : bodyPost Try.prog fn R .ret a W := by
  have z0 := bZ.cell 0
  have z1 := bZ.cell 1
  simp only [List.getElem?_toArray, List.getElem?_cons_zero, List.getElem?_cons_succ] at z0 z1
  have h2' : a.tmps[2]?.getD undef = .pointer (some ⟨S, 0, none⟩) := by simpa using h2
  have h3' : a.tmps[3]?.getD undef = .int .i64 n := by simpa using h3
  refine bodyPost_ret ?_ hd h
  simp [results, hres, h2', h3', go_sem, z0, z1]
theorem Box.put2 {w : World} {g : Nat} {t : TypeId} {u0 u1 : Value} (h : Box w g t #[u0, u1]) (v0 v1 : Value) : Box ((w.setCell ⟨g, 0, none⟩ v0).setCell ⟨g, 1, none⟩ v1) g t #[v0, v1] := by
  have := (h.put 0 v0).put 1 v1
  simpa only [List.setIfInBounds_toArray, List.set_cons_zero, List.set_cons_succ] using this
theorem Below.put2 {B : Nat} {w w' : World} (h : Below B w w') {g : Nat} (hg : B ≤ g) (v0 v1 : Value) : Below B w ((w'.setCell ⟨g, 0, none⟩ v0).setCell ⟨g, 1, none⟩ v1) :=
  (h.setCell (p := ⟨g, 0, none⟩) hg v0).setCell (p := ⟨g, 1, none⟩) hg v1
theorem Row.put2 {w : World} {lo lo' hi sz n : Nat} {A : Option Addr} {xs : List Value} (h : Row w lo hi sz A n xs) {g : Nat} (hg : g < lo) (hlo : lo' ≤ lo) (hh : hi ≤ w.heap.size) (v0 v1 : Value) :
    Row ((w.setCell ⟨g, 0, none⟩ v0).setCell ⟨g, 1, none⟩ v1) lo' ((w.setCell ⟨g, 0, none⟩ v0).setCell ⟨g, 1, none⟩ v1).heap.size sz A n xs :=
  ((h.setCell (p := ⟨g, 0, none⟩) (.inl hg) v0).setCell (p := ⟨g, 1, none⟩) (.inl hg) v1).wide hlo (by simpa using hh)

theorem pPut_byte {b : UInt8} {r : List UInt8} (h : 1 < b.toNat) : pPut (b :: r) = none := by rw [pPut, if_pos h]
theorem pPut_key {b : UInt8} {r : List UInt8} (hb : ¬ 1 < b.toNat) (h : (takeText 96 r).2.2 ≠ 0) : pPut (b :: r) = none := by rw [pPut, if_neg hb, if_pos h]
theorem pPut_del {b : UInt8} {r t : List UInt8} {k : Nat} (hb : b.toNat = 1) (h : takeText 96 r = (t, k, 0)) : pPut (b :: r) = some (⟨t, [], true⟩, r.drop k) := by
  rw [pPut, if_neg (by omega), if_neg (by rw [h]; simp), if_pos hb, h]
theorem pPut_val {b : UInt8} {r t : List UInt8} {k : Nat} (hb : b.toNat = 0) (h : takeText 96 r = (t, k, 0)) (h2 : (takeText 16384 (r.drop k)).2.2 ≠ 0) : pPut (b :: r) = none := by
  rw [pPut, if_neg (by omega), if_neg (by rw [h]; simp), if_neg (by omega), h, if_pos h2]
theorem pPut_put {b : UInt8} {r t u : List UInt8} {k k2 : Nat} (hb : b.toNat = 0) (h : takeText 96 r = (t, k, 0)) (h2 : takeText 16384 (r.drop k) = (u, k2, 0)) : pPut (b :: r) = some (⟨t, u, false⟩, (r.drop k).drop k2) := by
  rw [pPut, if_neg (by omega), if_neg (by rw [h]; simp), if_neg (by omega), h]
  dsimp only
  rw [h2]
  simp

theorem takeText_lens (mx : Nat) (l : List UInt8) : (takeText mx l).1.length ≤ mx ∧ (takeText mx l).2.1 ≤ l.length ∧ (takeText mx l).2.2 ≤ 3 := ⟨takeText_most, takeText_len mx l, takeText_err mx l⟩

set_option maxRecDepth 100000 in
set_option maxHeartbeats 800000 in
theorem decodeBatch_any (l : List UInt8) (hl : l.length ≤ 1099511627776) (w : World) :
    Calls Try.prog 23 #[str l] w (BatPost (decodeBatch l) w) := by
  have C1 := Lib.hid (fun w => takeUint_any l hl w)
  have C2 := Lib.hid (fun w => takeUint_any (l.drop (takeUint l).2.1) (by simp; omega) w)
  have a1 := takeUint_lt l
  have a2 := takeUint_len l
  have a3 := takeUint_err l
  have b1 := takeUint_lt (l.drop (takeUint l).2.1)
  have b2 := takeUint_len (l.drop (takeUint l).2.1)
  have b3 := takeUint_err (l.drop (takeUint l).2.1)
  have HP : Hid (∀ n1 k1 e1 n2 k2 e2 : Nat, takeUint l = (n1, k1, e1) → takeUint (l.drop k1) = (n2, k2, e2) → pBatch l = if e1 ≠ 0 then none else if e2 ≠ 0 ∨ 256 < n2 then none else match oiter pPut n2 ((l.drop k1).drop k2) with | none => none | some (xs, s) => some (⟨n1, xs⟩, s)) := by
    intro n1 k1 e1 n2 k2 e2 h1 h2
    unfold pBatch
    rw [h1]
    dsimp only
    rw [h2]
    rfl
  obtain ⟨n1, k1, e1, hu1⟩ : ∃ n k e, takeUint l = (n, k, e) := ⟨_, _, _, rfl⟩
  rw [hu1] at C1 C2 a1 a2 a3 b1 b2 b3
  dsimp only at C1 C2 a1 a2 a3 b1 b2 b3
  obtain ⟨n2, k2, e2, hu2⟩ : ∃ n k e, takeUint (l.drop k1) = (n, k, e) := ⟨_, _, _, rfl⟩
  rw [hu2] at C2 b1 b2 b3
  dsimp only at C2 b1 b2 b3
  have HPB := Lib.hid (HP.out _ _ _ _ _ _ hu1 hu2)
  rw [List.length_drop] at b2
  clear HP hu1 hu2
  unfold M64 at a1 b1
  obtain ⟨S, hS⟩ : ∃ S, w.heap.size = S := ⟨_, rfl⟩
  by_cases he1 : e1 = 0
  · subst he1
    by_cases he2 : e2 ≠ 0 ∨ 256 < n2
    · have HN := Lib.hid (decodeBatch_none (by rw [HPB.out, if_neg (by simp), if_pos he2]))
      clear HPB
      go_enter Try.func23, Try.ntmps23
      go_wp2_with fail
      refine (C1.out _).mono ?_
      rintro _ w1 ⟨rfl, rfl⟩
      go_wp2_with fail
      refine (C2.out _).mono ?_
      rintro _ w1 ⟨rfl, rfl⟩
      go_wp2_with fail
      all_goals first
        | (exfalso; omega)
        | exact bat_ret rfl rfl rfl rfl (Box.new_at _ _ _ _ hS.symm) (by rw [HN.out]; exact BatPost.none (by (repeat (first | exact Below.refl _ _ | refine Ext.trans' ?_ (Ext.al _ _) | refine Ext.trans' ?_ (Ext.dr _) | refine Ext.trans' ?_ (by assumption)))))
    · have hn2 : n2 ≤ 256 := by omega
      obtain rfl : e2 = 0 := by omega
      have HPB' := Lib.hid (HPB.out.trans ((if_neg (by simp)).trans (if_neg he2)))
      clear HPB he2
      go_enter Try.func23, Try.ntmps23
      go_wp2_with fail
      refine (C1.out _).mono ?_
      rintro _ w1 ⟨rfl, rfl⟩
      go_wp2_with fail
      refine (C2.out _).mono ?_
      rintro _ w1 ⟨rfl, rfl⟩
      go_wp2_with fail
      obtain ⟨s0, hs0⟩ : ∃ s0, (l.drop k1).drop k2 = s0 := ⟨_, rfl⟩
      have hl0 : s0.length ≤ l.length := by rw [← hs0]; simp; try omega
      rw [hs0] at HPB'
      simp only [List.drop_drop] at hs0
      have hs0e : (⟨(l.drop k1).toArray⟩ : ByteArray).extract k2 (l.length - k1) = ⟨s0.toArray⟩ := by rw [ba_extract, List.take_of_length_le (by simp; omega), List.drop_drop, hs0]
      have HS0 := Lib.hid hs0e
      clear hs0 hs0e
      obtain ⟨w1, hw1⟩ : ∃ w1, w1 = (w.alloc (.cells #[.int .u64 0, .slice none 0 0] 25)).alloc (.cells #[.int .u64 n1, .slice none 0 0] 25) := ⟨_, rfl⟩
      have bR1 : Box w1 S 25 #[.int .u64 0, .slice none 0 0] := by rw [hw1]; exact (Box.new_at _ _ _ _ hS.symm).alloc _
      have bE1 : Box w1 (S + 1) 25 #[.int .u64 n1, .slice none 0 0] := by rw [hw1]; exact Box.new_at _ _ _ _ (by simp [hS])
      have hX1 : Ext w w1 := by rw [hw1]; (repeat (first | exact Below.refl _ _ | refine Ext.trans' ?_ (Ext.al _ _) | refine Ext.trans' ?_ (Ext.dr _) | refine Ext.trans' ?_ (by assumption)))
      rw [← hw1]
      clear hw1 C1 C2
      go_loopw [0, 41] (fun v0 v wr => ∃ (k : Nat) (xs : List Put) (s : List UInt8) (A : Option Addr) (c : Nat), k ≤ n2 ∧ v = .int .u64 k ∧ v0 = str s ∧ Hid (oiter pPut k s0 = some (xs, s)) ∧ s.length ≤ l.length ∧
        Box wr S 25 #[.int .u64 0, .slice none 0 0] ∧ Box wr (S + 1) 25 #[.int .u64 n1, .slice A xs.length c] ∧ Own wr (S + 1 + 1) 68 Put.cells 3 A c xs ∧ Ext w wr) (fun _ v _ => n2 - (intOf v).toNat)
      · exact ⟨0, [], s0, none, 0, by omega, rfl, by rw [HS0.out], rfl, hl0, bR1, bE1, Own.nil_, hX1⟩
      · clear bR1 bE1 hX1
        obtain ⟨k, xs, s, A, c, hk, rfl, rfl, hit, hsl, bR, bE, hown, hX⟩ := hrel
        have hxl := oiter_len hit.out
        have hx1 : xs.length ≤ k := by omega
        have hx2 : k ≤ xs.length := by omega
        have r0 := bR.cell 0
        have r1 := bR.cell 1
        have rf := bR.frozen
        simp only [List.getElem?_toArray, List.getElem?_cons_zero, List.getElem?_cons_succ] at r0 r1
        clear hxl
        by_cases hlt : k < n2
        · have HFAIL := Lib.hid (fun hf => decodeBatch_none (HPB'.out.trans (by rw [oiter_fail hit.out hf hlt])))
          cases s with
          | nil =>
            (try dsimp only); (repeat (first | go_values | go_skip | go_guarded | go_step | go_upon)); (try simp only [Exit.inBlock, Exit.then])
            exact bat_ret rfl rfl rfl rfl (bR.put2 _ _) (by rw [HFAIL.out rfl]; exact BatPost.none (Below.put2 hX (Nat.le_of_eq hS) _ _))
          | cons b r =>
            have hx := b.toNat_lt
            obtain ⟨x, hxx⟩ : ∃ x, b.toNat = x := ⟨_, rfl⟩
            have hx' : ((⟨(b :: r).toArray⟩ : ByteArray)[0]'(by show 0 < (b :: r).toArray.size; simp)).toNat = x := hxx
            have hex : (⟨(b :: r).toArray⟩ : ByteArray).extract 1 (r.length + 1) = ⟨r.toArray⟩ := by rw [ba_extract]; simp
            rw [hxx] at hx
            have HX := Lib.hid hxx
            clear hxx
            rw [List.length_cons] at hsl
            by_cases hb : 1 < x
            · have HF := Lib.hid (HFAIL.out (pPut_byte (by rw [HX.out]; exact hb)))
              (try dsimp only); (repeat (first | go_values | go_skip | go_guarded | go_step | go_upon)); (try simp only [Exit.inBlock, Exit.then])
              exact bat_ret rfl rfl rfl rfl (bR.put2 _ _) (by rw [HF.out]; exact BatPost.none (Below.put2 hX (Nat.le_of_eq hS) _ _))
            · have C3 := Lib.hid (fun w => takeText_any 96 (by omega) r (by omega) w)
              obtain ⟨c1, c2, c3⟩ := takeText_lens 96 r
              obtain ⟨t, k3, e3, hu3⟩ : ∃ t k e, takeText 96 r = (t, k, e) := ⟨_, _, _, rfl⟩
              rw [hu3] at C3 c1 c2 c3
              dsimp only at C3 c1 c2 c3
              have HU3 := Lib.hid hu3
              clear hu3
              obtain ⟨T, hT⟩ : ∃ T, wr.heap.size = T := ⟨_, rfl⟩
              have hST : S + 1 < T := by have := bE.lt; omega
              have hAT : ownBlk A ≠ some T := fun e => by have := hown.blk T e; omega
              have q1 : S + 1 ≠ T := by omega
              have q2 : S ≠ T := by omega
              by_cases he3 : e3 = 0
              · subst he3
                by_cases hb1 : x = 1
                · subst hb1
                  have HIT := Lib.hid (oiter_next hit.out (pPut_del HX.out HU3.out))
                  have hex2 : (⟨(b :: r).toArray⟩ : ByteArray).extract (1 + k3) (r.length + 1) = ⟨(r.drop k3).toArray⟩ := by rw [ba_extract, List.take_of_length_le (by simp; try omega), Nat.add_comm 1 k3]; simp
                  have HEX := Lib.hid hex2
                  go_wp2_with fail
                  (obtain ⟨w2, hw2⟩ : ∃ w2, w2 = World.alloc wr (.cells #[str [], str [], .bool true] 68) := ⟨_, rfl⟩); (have hbox_w2 : Box w2 (wr).heap.size 68 #[str [], str [], .bool true] := by rw [hw2]; exact Box.new _ _ _); (have hE_w2 : Ext wr w2 := by rw [hw2]; exact Ext.al _ _); (have hz_w2 : (w2).heap.size = (wr).heap.size + 1 := by rw [hw2]; simp); rw [← hw2]; clear hw2
                  rw [hT] at hbox_w2
                  refine (C3.out _).mono ?_
                  rintro _ w3 ⟨rfl, hb3⟩
                  have hE3 := hE_w2.trans' hb3
                  have bT := hbox_w2.ext hb3
                  have bTz := bT.put 0 (str t)
                  simp only [List.setIfInBounds_toArray, List.set_cons_zero, List.set_cons_succ] at bTz
                  have bEz := (bE.ext hE3).far (p := ⟨T, 0, none⟩) q1 (str t)
                  have bRz := (bR.ext hE3).far (p := ⟨T, 0, none⟩) q2 (str t)
                  have hoz := (hown.ext hE3).setCell (p := ⟨T, 0, none⟩) hAT (str t)
                  have hXz := (hX.trans' hE3).setCell (p := ⟨T, 0, none⟩) (by simp; omega) (str t)
                  have t0 := bT.cell 0
                  have tf := bT.frozen
                  simp only [List.getElem?_toArray, List.getElem?_cons_zero, List.getElem?_cons_succ] at t0
                  clear bT bE bR hown hX r0 r1 rf hE3 hb3 hE_w2 hbox_w2 hz_w2 hit
                  have q1 : S + 1 ≠ T := by omega
                  have hgo : ∀ g, ownBlk A = some g → S + 1 + 1 ≤ g := fun g e => (hoz.blk g e).1
                  have hzz := bTz.lt
                  have x0 := bTz.cell 0
                  have x1 := bTz.cell 1
                  have x2 := bTz.cell 2
                  have y1 := bEz.cell 1
                  have yf := bEz.frozen
                  simp only [List.getElem?_toArray, List.getElem?_cons_zero, List.getElem?_cons_succ] at x0 x1 x2 y1
                  go_wp2_with (at_builtin; refine wpList_push Try.putsOf rfl _ _ rfl (⟨t, [], true⟩ : Put) rfl hoz rfl (by first | rfl | (simp; done) | (simp; rfl)) rfl (Put.cells_len _) (Put.one _) (by omega) (by omega) (by omega) ?_)
                  rintro A' c' w10 hown' hg
                  have bE2 := (bEz.alloc (.cells (⟨t, [], true⟩ : Put).cells.toArray 68)).grown hg (fun e => by have := hgo _ e.symm; omega)
                  have bR2 := (bRz.alloc (.cells (⟨t, [], true⟩ : Put).cells.toArray 68)).grown hg (fun e => by have := hgo _ e.symm; omega)
                  have hX2 := hoz.below_push hXz (by omega) hXz.size hg
                  clear bEz bRz bTz hoz hXz hg hgo x0 x1 x2 y1 yf
                  have y1 := bE2.cell 1
                  have yf := bE2.frozen
                  simp only [List.getElem?_toArray, List.getElem?_cons_zero, List.getElem?_cons_succ] at y1
                  go_wp2
                  have bE3 := bE2.put 1 (.slice A' (xs.length + 1) c')
                  simp only [List.setIfInBounds_toArray, List.set_cons_zero, List.set_cons_succ] at bE3
                  exact ⟨⟨k + 1, xs ++ [⟨t, [], true⟩], r.drop k3, A', c', by omega, by simp, by first | rfl | (rw [HEX.out]) | (rw [List.drop_drop]), HIT, by simp; omega, bR2.far (p := ⟨S + 1, 1, none⟩) (by simp) _, by rw [List.length_append]; exact bE3,
                    hown'.setCell (p := ⟨S + 1, 1, none⟩) (fun e => by have := (hown'.blk (S + 1) e).1; omega) _, hX2.setCell (p := ⟨S + 1, 1, none⟩) (by simp; omega) _⟩, by simp [intOf]; omega⟩
                · obtain rfl : x = 0 := by omega
                  have hex2 : (⟨(b :: r).toArray⟩ : ByteArray).extract (1 + k3) (r.length + 1) = ⟨(r.drop k3).toArray⟩ := by rw [ba_extract, List.take_of_length_le (by simp; try omega), Nat.add_comm 1 k3]; simp
                  have C4 := Lib.hid (fun w => takeText_any 16384 (by omega) (r.drop k3) (by simp; omega) w)
                  obtain ⟨d1, d2, d3⟩ := takeText_lens 16384 (r.drop k3)
                  obtain ⟨u, k4, e4, hu4⟩ : ∃ t k e, takeText 16384 (r.drop k3) = (t, k, e) := ⟨_, _, _, rfl⟩
                  rw [hu4] at C4 d1 d2 d3
                  rw [List.length_drop] at d2
                  dsimp only at C4 d1 d2 d3
                  have HU4 := Lib.hid hu4
                  clear hu4
                  go_wp2_with fail
                  (obtain ⟨w2, hw2⟩ : ∃ w2, w2 = World.alloc wr (.cells #[str [], str [], .bool false] 68) := ⟨_, rfl⟩); (have hbox_w2 : Box w2 (wr).heap.size 68 #[str [], str [], .bool false] := by rw [hw2]; exact Box.new _ _ _); (have hE_w2 : Ext wr w2 := by rw [hw2]; exact Ext.al _ _); (have hz_w2 : (w2).heap.size = (wr).heap.size + 1 := by rw [hw2]; simp); rw [← hw2]; clear hw2
                  rw [hT] at hbox_w2
                  refine (C3.out _).mono ?_
                  rintro _ w3 ⟨rfl, hb3⟩
                  have hE3 := hE_w2.trans' hb3
                  have bT := hbox_w2.ext hb3
                  have bT1 := bT.put 0 (str t)
                  simp only [List.setIfInBounds_toArray, List.set_cons_zero, List.set_cons_succ] at bT1
                  have bE1 := (bE.ext hE3).far (p := ⟨T, 0, none⟩) q1 (str t)
                  have bR1 := (bR.ext hE3).far (p := ⟨T, 0, none⟩) q2 (str t)
                  have ho1 := (hown.ext hE3).setCell (p := ⟨T, 0, none⟩) hAT (str t)
                  have hX1 := (hX.trans' hE3).setCell (p := ⟨T, 0, none⟩) (by simp; omega) (str t)
                  have t0 := bT.cell 0
                  have t2 := bT.cell 2
                  have tf := bT.frozen
                  simp only [List.getElem?_toArray, List.getElem?_cons_zero, List.getElem?_cons_succ] at t0 t2
                  clear bT bE bR hown hX r0 r1 rf hE3 hb3 hE_w2 hbox_w2 hz_w2
                  go_wp2_with fail
                  obtain ⟨w4, hw4⟩ : ∃ w4, w3.setCell ⟨T, 0, none⟩ (str t) = w4 := ⟨_, rfl⟩
                  rw [hw4] at bT1 bE1 bR1 ho1 hX1
                  rw [show World.setCell w3 ⟨T, 0, none⟩ (Value.string ⟨t.toArray⟩) = w4 from hw4]
                  refine (C4.out _).mono ?_
                  rintro _ w5 ⟨rfl, hb5⟩
                  have bT := bT1.ext hb5
                  have bTz := bT.put 1 (str u)
                  simp only [List.setIfInBounds_toArray, List.set_cons_zero, List.set_cons_succ] at bTz
                  have bEz := (bE1.ext hb5).far (p := ⟨T, 1, none⟩) q1 (str u)
                  have bRz := (bR1.ext hb5).far (p := ⟨T, 1, none⟩) q2 (str u)
                  have hoz := (ho1.ext hb5).setCell (p := ⟨T, 1, none⟩) hAT (str u)
                  have hXz := (hX1.trans' hb5).setCell (p := ⟨T, 1, none⟩) (by simp; omega) (str u)
                  clear t0 t2 tf
                  have t1 := bT.cell 1
                  have tf := bT.frozen
                  simp only [List.getElem?_toArray, List.getElem?_cons_zero, List.getElem?_cons_succ] at t1
                  clear bT bT1 bE1 bR1 ho1 hX1 hb5 hw4
                  by_cases he4 : e4 = 0
                  · subst he4
                    have HIT := Lib.hid (oiter_next hit.out (pPut_put HX.out HU3.out HU4.out))
                    have hex4 : (⟨(r.drop k3).toArray⟩ : ByteArray).extract k4 (r.length - k3) = ⟨((r.drop k3).drop k4).toArray⟩ := by rw [ba_extract, List.take_of_length_le (by simp; try omega)]
                    have HEX := Lib.hid hex4
                    clear hit
                    have q1 : S + 1 ≠ T := by omega
                    have hgo : ∀ g, ownBlk A = some g → S + 1 + 1 ≤ g := fun g e => (hoz.blk g e).1
                    have hzz := bTz.lt
                    have x0 := bTz.cell 0
                    have x1 := bTz.cell 1
                    have x2 := bTz.cell 2
                    have y1 := bEz.cell 1
                    have yf := bEz.frozen
                    simp only [List.getElem?_toArray, List.getElem?_cons_zero, List.getElem?_cons_succ] at x0 x1 x2 y1
                    go_wp2_with (at_builtin; refine wpList_push Try.putsOf rfl _ _ rfl (⟨t, u, false⟩ : Put) rfl hoz rfl (by first | rfl | (simp; done) | (simp; rfl)) rfl (Put.cells_len _) (Put.one _) (by omega) (by omega) (by omega) ?_)
                    rintro A' c' w10 hown' hg
                    have bE2 := (bEz.alloc (.cells (⟨t, u, false⟩ : Put).cells.toArray 68)).grown hg (fun e => by have := hgo _ e.symm; omega)
                    have bR2 := (bRz.alloc (.cells (⟨t, u, false⟩ : Put).cells.toArray 68)).grown hg (fun e => by have := hgo _ e.symm; omega)
                    have hX2 := hoz.below_push hXz (by omega) hXz.size hg
                    clear bEz bRz bTz hoz hXz hg hgo x0 x1 x2 y1 yf
                    have y1 := bE2.cell 1
                    have yf := bE2.frozen
                    simp only [List.getElem?_toArray, List.getElem?_cons_zero, List.getElem?_cons_succ] at y1
                    go_wp2
                    have bE3 := bE2.put 1 (.slice A' (xs.length + 1) c')
                    simp only [List.setIfInBounds_toArray, List.set_cons_zero, List.set_cons_succ] at bE3
                    exact ⟨⟨k + 1, xs ++ [⟨t, u, false⟩], (r.drop k3).drop k4, A', c', by omega, by simp, by first | rfl | (rw [HEX.out]) | (rw [List.drop_drop]), HIT, by simp; omega, bR2.far (p := ⟨S + 1, 1, none⟩) (by simp) _, by rw [List.length_append]; exact bE3,
                      hown'.setCell (p := ⟨S + 1, 1, none⟩) (fun e => by have := (hown'.blk (S + 1) e).1; omega) _, hX2.setCell (p := ⟨S + 1, 1, none⟩) (by simp; omega) _⟩, by simp [intOf]; omega⟩
                  · have hne4 : ((e4 : Int) != 0) = true := by simp; omega
                    have HF := Lib.hid (HFAIL.out (pPut_val HX.out HU3.out (by rw [HU4.out]; exact he4)))
                    have r0 := bRz.cell 0
                    have r1 := bRz.cell 1
                    have rf := bRz.frozen
                    simp only [List.getElem?_toArray, List.getElem?_cons_zero, List.getElem?_cons_succ] at r0 r1
                    (try dsimp only); (repeat (first | go_values | go_skip | go_guarded | go_step | go_upon)); (try simp only [Exit.inBlock, Exit.then])
                    exact bat_ret rfl rfl rfl rfl (bRz.put2 _ _) (by rw [HF.out]; exact BatPost.none (Below.put2 hXz (Nat.le_of_eq hS) _ _))
              · have hne3 : ((e3 : Int) != 0) = true := by simp; omega
                have HF := Lib.hid (HFAIL.out (pPut_key (by rw [HX.out]; exact hb) (by rw [HU3.out]; exact he3)))
                go_wp2_with fail
                (obtain ⟨w2, hw2⟩ : ∃ w2, w2 = World.alloc wr (.cells #[str [], str [], .bool ((x : Int) == 1)] 68) := ⟨_, rfl⟩); (have hbox_w2 : Box w2 (wr).heap.size 68 #[str [], str [], .bool ((x : Int) == 1)] := by rw [hw2]; exact Box.new _ _ _); (have hE_w2 : Ext wr w2 := by rw [hw2]; exact Ext.al _ _); (have hz_w2 : (w2).heap.size = (wr).heap.size + 1 := by rw [hw2]; simp); rw [← hw2]; clear hw2
                rw [hT] at hbox_w2
                refine (C3.out _).mono ?_
                rintro _ w3 ⟨rfl, hb3⟩
                have hE3 := hE_w2.trans' hb3
                have bT := hbox_w2.ext hb3
                have t0 := bT.cell 0
                have tf := bT.frozen
                have bRz := (bR.ext hE3).far (p := ⟨T, 0, none⟩) q2 (str t)
                have hXz := (hX.trans' hE3).setCell (p := ⟨T, 0, none⟩) (by simp; omega) (str t)
                clear r0 r1 rf
                have r0 := bRz.cell 0
                have r1 := bRz.cell 1
                have rf := bRz.frozen
                simp only [List.getElem?_toArray, List.getElem?_cons_zero, List.getElem?_cons_succ] at t0 r0 r1
                (try dsimp only); (repeat (first | go_values | go_skip | go_guarded | go_step | go_upon)); (try simp only [Exit.inBlock, Exit.then])
                exact bat_ret rfl rfl rfl rfl (bRz.put2 _ _) (by rw [HF.out]; exact BatPost.none (Below.put2 hXz (Nat.le_of_eq hS) _ _))
        · obtain rfl : k = n2 := by omega
          have HDB := Lib.hid (decodeBatch_some (HPB'.out.trans (by rw [hit.out])))
          have hsm := oiter_all (p := fun p : Put => p.key.length ≤ 96 ∧ p.val.length ≤ 16384) (fun _ _ _ => pPut_small) hit.out
          have hsml : small xs := fun p hp => by have := hsm p hp; omega
          have HRT := Lib.hid (right_any ⟨n1, xs⟩ (by unfold M64; exact a1) (by dsimp only; omega) hsml A c wr (hown.row.wide (Nat.zero_le _) (Nat.le_refl _)))
          have HRW := Lib.hid hown.row
          have y0 := bE.cell 0
          have y1 := bE.cell 1
          simp only [List.getElem?_toArray, List.getElem?_cons_zero, List.getElem?_cons_succ] at y0 y1
          clear hsm hsml hown hit HPB'
          cases s with
          | cons b r =>
            have HF : Hid (decodeBatch l = (noBatch, 3)) := HDB.out.trans (if_pos (by simp))
            (try dsimp only); (repeat (first | go_values | go_skip | go_guarded | go_step | go_upon)); (try simp only [Exit.inBlock, Exit.then])
            exact bat_ret rfl rfl rfl rfl (bR.put2 _ _) (by rw [HF.out]; exact BatPost.none (Below.put2 hX (Nat.le_of_eq hS) _ _))
          | nil =>
            dsimp only at HRT
            obtain ⟨rb, hrb⟩ : ∃ rb, decide (Batch.Right ⟨n1, xs⟩) = rb := ⟨_, rfl⟩
            have HRB := Lib.hid hrb
            rw [hrb] at HRT
            clear hrb
            go_wp2_with fail
            refine HRT.out.mono ?_
            rintro _ w7 ⟨rfl, hb7⟩
            have bR7 := bR.ext hb7
            have bE7 := bE.ext hb7
            have hX7 := hX.trans' hb7
            have HR7 := Lib.hid (HRW.out.below hb7 (Nat.le_refl _))
            have hz7 := hb7.size
            clear bR bE hX y0 y1 r0 r1 rf
            have y0 := bE7.cell 0
            have y1 := bE7.cell 1
            have r0 := bR7.cell 0
            have r1 := bR7.cell 1
            have rf := bR7.frozen
            simp only [List.getElem?_toArray, List.getElem?_cons_zero, List.getElem?_cons_succ] at y0 y1 r0 r1
            cases rb with
            | false =>
              have HF : Hid (decodeBatch l = (noBatch, 3)) := HDB.out.trans (if_pos (by rw [HRB.out]; rfl))
              (try dsimp only); (repeat (first | go_values | go_skip | go_guarded | go_step | go_upon)); (try simp only [Exit.inBlock, Exit.then])
              exact bat_ret rfl rfl rfl rfl (bR7.put2 _ _) (by rw [HF.out]; exact BatPost.none (Below.put2 hX7 (Nat.le_of_eq hS) _ _))
            | true =>
              have HF : Hid (decodeBatch l = (⟨n1, xs⟩, 0)) := HDB.out.trans (if_neg (by rw [HRB.out]; simp))
              (try dsimp only); (repeat (first | go_values | go_skip | go_guarded | go_step | go_upon)); (try simp only [Exit.inBlock, Exit.then])
              exact bat_ret rfl rfl rfl rfl (bR7.put2 _ _) (by rw [HF.out]; exact BatPost.mk (b := ⟨n1, xs⟩) (HR7.out.put2 (by omega) (by omega) hz7 _ _) (Below.put2 hX7 (Nat.le_of_eq hS) _ _))
  · have HN := Lib.hid (decodeBatch_none (by rw [HPB.out, if_pos he1]))
    clear HPB
    have hne : ((e1 : Int) != 0) = true := by simp; omega
    go_enter Try.func23, Try.ntmps23
    go_wp2_with (go_at_call 59; refine (C1.out _).mono ?_; rintro _ w1 ⟨rfl, rfl⟩)
    exact bat_ret rfl rfl rfl rfl (Box.new_at _ _ _ _ hS.symm) (by rw [HN.out]; exact BatPost.none (by (repeat (first | exact Below.refl _ _ | refine Ext.trans' ?_ (Ext.al _ _) | refine Ext.trans' ?_ (Ext.dr _) | refine Ext.trans' ?_ (by assumption)))))
end Go.Proofs.Yteplpgknnlehnaa
