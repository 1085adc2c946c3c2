/- One edit that tells all tables that live (layer 10), an edit of too many tables is refused, any tables that live are compared: the walks. -/
import Derived.Test.YteplpgknnlehnaaApl5
import Derived.Test.YteplpgknnlehnaaManBack
import Derived.BigGuardPart
namespace Go.Proofs.Yteplpgknnlehnaa
set_option linter.unusedSimpArgs false
set_option linter.unusedVariables false
open Go.RowKit


set_option maxRecDepth 100000 in
set_option maxHeartbeats 800000 in
theorem editMay_many (n s g m c d c' : Nat) (hn : n < M64) (hs : s < M64) (hg : g < M64) (hm : 1000 < m) (hm2 : m ≤ 1099511627776) (A A' : Option Addr) (w : World) :
    Calls Try.prog 44 #[.agg #[.int .u64 n, .int .u64 s, .int .u64 g, .slice A m c, .slice A' d c']] w fun r w' => r = .returned (.bool false) ∧ Ext w w' := by
  unfold M64 at *
  have hmi : (1000 : Int) < (m : Int) := by omega
  go_enter Try.func44, Try.ntmps44
  go_wp2_with fail
  all_goals go_ret
  all_goals exact ⟨by simp, by (repeat (first | exact Below.refl _ _ | refine Ext.trans' ?_ (Ext.al _ _) | refine Ext.trans' ?_ (Ext.dr _) | refine Ext.trans' ?_ (by assumption)))⟩

set_option maxRecDepth 100000 in
set_option maxHeartbeats 800000 in
theorem apply_many (v : Live) (p : Place) (n s g m c d c' : Nat) (hn : n < M64) (hs : s < M64) (hg : g < M64) (hm : 1000 < m) (hm2 : m ≤ 1099511627776) (A A' : Option Addr) (w : World) :
    Calls Try.prog 25 #[.agg (v.cells p), .agg #[.int .u64 n, .int .u64 s, .int .u64 g, .slice A m c, .slice A' d c']] w (LivePost (noLive, 1) w) := by
  have HMAY := Lib.hid (fun w' => editMay_many n s g m c d c' hn hs hg hm hm2 A A' w')
  clear hn hs hg hm hm2
  go_enter Try.func25, Try.ntmps25
  go_wp2_with fail
  obtain ⟨S, hS⟩ : ∃ S, w.heap.size = S := ⟨_, rfl⟩
  (obtain ⟨w0, hw0⟩ : ∃ w0, w0 = World.alloc w (.cells (v.cells p) 48) := ⟨_, rfl⟩); (have hbox_w0 : Box w0 (w).heap.size 48 (v.cells p) := by rw [hw0]; exact Box.new _ _ _); (have hE_w0 : Ext w w0 := by rw [hw0]; exact Ext.al _ _); (have hz_w0 : (w0).heap.size = (w).heap.size + 1 := by rw [hw0]; simp); rw [← hw0]; clear hw0
  (obtain ⟨w1, hw1⟩ : ∃ w1, w1 = World.alloc w0 (.cells #[.int .u64 n, .int .u64 s, .int .u64 g, .slice A m c, .slice A' d c'] 35) := ⟨_, rfl⟩); (have hbox_w1 : Box w1 (w0).heap.size 35 #[.int .u64 n, .int .u64 s, .int .u64 g, .slice A m c, .slice A' d c'] := by rw [hw1]; exact Box.new _ _ _); (have hE_w1 : Ext w0 w1 := by rw [hw1]; exact Ext.al _ _); (have hz_w1 : (w1).heap.size = (w0).heap.size + 1 := by rw [hw1]; simp); rw [← hw1]; clear hw1
  (obtain ⟨w2, hw2⟩ : ∃ w2, w2 = World.alloc w1 (.cells #[.int .u64 0, .int .u64 0, .int .u64 0, .slice none 0 0, .slice none 0 0, .slice none 0 0, .slice none 0 0] 48) := ⟨_, rfl⟩); (have hbox_w2 : Box w2 (w1).heap.size 48 #[.int .u64 0, .int .u64 0, .int .u64 0, .slice none 0 0, .slice none 0 0, .slice none 0 0, .slice none 0 0] := by rw [hw2]; exact Box.new _ _ _); (have hE_w2 : Ext w1 w2 := by rw [hw2]; exact Ext.al _ _); (have hz_w2 : (w2).heap.size = (w1).heap.size + 1 := by rw [hw2]; simp); rw [← hw2]; clear hw2
  have bE2 := hbox_w1.ext hE_w2
  have hX2 := (hE_w0.trans' hE_w1).trans' hE_w2
  have bR2 := hbox_w2
  have hM2 : w2.heap.size = S + 3 := by omega
  rw [hz_w1, hz_w0, hS] at bR2
  rw [hz_w0, hS] at bE2
  rw [hS]
  clear hbox_w0 hbox_w1 hbox_w2 hE_w0 hE_w1 hE_w2 hz_w0 hz_w1 hz_w2
  refine (HMAY.out w2).mono ?_
  rintro _ w3 ⟨rfl, hb3⟩
  have bR3 := bR2.ext hb3
  have hX3 := hX2.trans' hb3
  have hz3 := hb3.size
  clear bE2 bR2 hX2 hb3 HMAY
  have r0 := bR3.cell 0
  have r1 := bR3.cell 1
  have r2 := bR3.cell 2
  have r3 := bR3.cell 3
  have r4 := bR3.cell 4
  have r5 := bR3.cell 5
  have r6 := bR3.cell 6
  have rf := bR3.frozen
  simp only [List.getElem?_toArray, List.getElem?_cons_zero, List.getElem?_cons_succ] at r0 r1 r2 r3 r4 r5 r6
  (try dsimp only); (repeat (first | go_values | go_skip | go_guarded | go_step | go_upon)); (try simp only [Exit.inBlock, Exit.then])
  (try simp only [Exit.inBlock, Exit.then])
  refine live_ret (v := noLive) (p := noPlace) rfl rfl rfl rfl (bR3.put7 _ _ _ _ _ _ _) ?_
  exact LivePost.mk (LiveAt.none_ _) (Below.put7 hX3 (by omega) _ _ _ _ _ _ _)


set_option maxRecDepth 100000 in
set_option maxHeartbeats 800000 in
theorem sameLive_some (v u : Live) (hl : ∀ k, k < 4 → (v.tab k).length ≤ 1099511627776) (hl2 : ∀ k, k < 4 → (u.tab k).length ≤ 1099511627776) (p q : Place) (w : World) (h1 : LiveAt w v p) (h2 : LiveAt w u q) :
    Calls Try.prog 27 #[.agg (v.cells p), .agg (u.cells q)] w fun e w' => (∃ b : Bool, e = .returned (.bool b)) ∧ Ext w w' := by
  have HS := Lib.hid (fun w' (hb : Ext w w') k (hk : k < 4) => (sameTables_any (v.tab k) (u.tab k) (hl k hk) (hl2 k hk) (p.A k) (q.A k) (p.c k) (q.c k) w' (h1.ext hb k hk) (h2.ext hb k hk)))
  clear hl hl2 h1 h2
  go_enter Try.func27, Try.ntmps27
  go_wp2_with fail
  obtain ⟨S, hS⟩ : ∃ S, w.heap.size = S := ⟨_, rfl⟩
  (obtain ⟨w0, hw0⟩ : ∃ w0, w0 = World.alloc w (.cells (v.cells p) 48) := ⟨_, rfl⟩); (have hbox_w0 : Box w0 (w).heap.size 48 (v.cells p) := by rw [hw0]; exact Box.new _ _ _); (have hE_w0 : Ext w w0 := by rw [hw0]; exact Ext.al _ _); (have hz_w0 : (w0).heap.size = (w).heap.size + 1 := by rw [hw0]; simp); rw [← hw0]; clear hw0
  (obtain ⟨w1, hw1⟩ : ∃ w1, w1 = World.alloc w0 (.cells (u.cells q) 48) := ⟨_, rfl⟩); (have hbox_w1 : Box w1 (w0).heap.size 48 (u.cells q) := by rw [hw1]; exact Box.new _ _ _); (have hE_w1 : Ext w0 w1 := by rw [hw1]; exact Ext.al _ _); (have hz_w1 : (w1).heap.size = (w0).heap.size + 1 := by rw [hw1]; simp); rw [← hw1]; clear hw1
  have bP1 := hbox_w0.ext hE_w1
  have bQ1 := hbox_w1
  have hX1 := hE_w0.trans' hE_w1
  rw [hz_w0, hS] at bQ1
  rw [hS] at bP1
  rw [hS] at hz_w0 ⊢
  clear hbox_w0 hbox_w1 hE_w0 hE_w1
  go_loopw [5] (fun i wr => ∃ k : Nat, k ≤ 4 ∧ i = .int .i64 k ∧ Ext w1 wr) (fun i _ => 4 - (intOf i).toNat)
  · exact ⟨0, by omega, rfl, Below.refl _ _⟩
  · obtain ⟨k, hk, rfl, hX⟩ := hrel
    have bP := bP1.ext hX
    have bQ := bQ1.ext hX
    by_cases hlt : k < 4
    · have p1 := bP.cell (3 + k)
      have q1 := bQ.cell (3 + k)
      rw [Live.cell _ _ hlt] at p1 q1
      have k0 : (0 : Int) ≤ (k : Int) := by omega
      have k4 : (k : Int) < 4 := by omega
      have hPw : S + 1 < wr.heap.size := bQ.lt
      have hXr := hX1.trans' hX
      obtain ⟨b, hb⟩ : ∃ b : Bool, decide (v.tab k = u.tab k) = b := ⟨_, rfl⟩
      have HSk := HS.out wr.drew (hXr.trans' (Ext.dr wr)) k hlt
      rw [hb] at HSk
      have HSk := Lib.hid HSk
      clear hb
      go_wp2_with fail
      refine wp_region_sch (RS ((fun x => x = S ∨ x = S + 1))) 10 [(0, true), (1, true), (2, true), (3, true), (4, true), (5, true), (6, true), (7, true), (8, false), (9, true)] (by kernel_rfl) (by kernel_rfl) RS.refl RS.trans (fun _ _ d _ _ h => by cases d <;> exact h) ?_
      refine wpSch_q ?_ rfl rfl (fun w' hR => ?_) ?_
      rotate_left
      · (go_simp; first | rfl | rw [if_neg (by simp; omega)] | rw [if_neg (by omega)])
      (try simp only [Act.put, List.setIfInBounds_toArray, List.set_cons_zero, List.set_cons_succ])
      refine wpSch_q ?_ rfl rfl (fun w' hR => ?_) ?_
      rotate_left
      · (go_simp; first | rfl | rw [if_neg (by simp; omega)] | rw [if_neg (by omega)])
      (try simp only [Act.put, List.setIfInBounds_toArray, List.set_cons_zero, List.set_cons_succ])
      refine wpSch_q ?_ rfl rfl (fun w' hR => ?_) ?_
      rotate_left
      · (go_simp; first | rfl | rw [if_neg (by simp; omega)] | rw [if_neg (by omega)])
      (try simp only [Act.put, List.setIfInBounds_toArray, List.set_cons_zero, List.set_cons_succ])
      refine wpSch_q ?_ rfl rfl (fun w' hR => ?_) ?_
      rotate_left
      · (obtain ⟨hRs, hRc⟩ := hR; (try have hRd := fun o => hRc _ o rfl (by first | (simp; done) | (simp; omega) | omega)); (try have hRe := fun o => hRc _ o (Or.inl rfl) (by first | (simp; done) | (simp; omega) | omega)); (try have hRf := fun o => hRc _ o (Or.inr rfl) (by first | (simp; done) | (simp; omega) | omega)); (try have hRg := fun o => hRc _ o (Or.inr (Or.inl rfl)) (by first | (simp; done) | (simp; omega) | omega)); (try have hRh := fun o => hRc _ o (Or.inr (Or.inr rfl)) (by first | (simp; done) | (simp; omega) | omega)); go_simp; first | rfl | rw [if_neg (by simp; omega)] | rw [if_neg (by omega)])
      (try simp only [Act.put, List.setIfInBounds_toArray, List.set_cons_zero, List.set_cons_succ])
      refine wpSch_q ?_ rfl rfl (fun w' hR => ?_) ?_
      rotate_left
      · (go_simp; first | rfl | rw [if_neg (by simp; omega)] | rw [if_neg (by omega)])
      (try simp only [Act.put, List.setIfInBounds_toArray, List.set_cons_zero, List.set_cons_succ])
      refine wpSch_q ?_ rfl rfl (fun w' hR => ?_) ?_
      rotate_left
      · (go_simp; first | rfl | rw [if_neg (by simp; omega)] | rw [if_neg (by omega)])
      (try simp only [Act.put, List.setIfInBounds_toArray, List.set_cons_zero, List.set_cons_succ])
      refine wpSch_q ?_ rfl rfl (fun w' hR => ?_) ?_
      rotate_left
      · (go_simp; first | rfl | rw [if_neg (by simp; omega)] | rw [if_neg (by omega)])
      (try simp only [Act.put, List.setIfInBounds_toArray, List.set_cons_zero, List.set_cons_succ])
      refine wpSch_q ?_ rfl rfl (fun w' hR => ?_) ?_
      rotate_left
      · (obtain ⟨hRs, hRc⟩ := hR; (try have hRd := fun o => hRc _ o rfl (by first | (simp; done) | (simp; omega) | omega)); (try have hRe := fun o => hRc _ o (Or.inl rfl) (by first | (simp; done) | (simp; omega) | omega)); (try have hRf := fun o => hRc _ o (Or.inr rfl) (by first | (simp; done) | (simp; omega) | omega)); (try have hRg := fun o => hRc _ o (Or.inr (Or.inl rfl)) (by first | (simp; done) | (simp; omega) | omega)); (try have hRh := fun o => hRc _ o (Or.inr (Or.inr rfl)) (by first | (simp; done) | (simp; omega) | omega)); go_simp; first | rfl | rw [if_neg (by simp; omega)] | rw [if_neg (by omega)])
      (try simp only [Act.put, List.setIfInBounds_toArray, List.set_cons_zero, List.set_cons_succ])
      refine wpSch_e rfl rfl (fun K hK => ?_)
      go_simp
      refine (HSk.out).mono ?_
      rintro e w9 ⟨rfl, hb9⟩
      refine hK _ _ (fun _ => RS.fr (S' := fun _ => True) (Fr.of_ext hb9) (fun _ _ _ => trivial)) ?_
      clear hK K
      (try simp only [Act.put, List.setIfInBounds_toArray, List.set_cons_zero, List.set_cons_succ])
      skip
      refine wpSch_q ?_ rfl rfl (fun w' hR => ?_) ?_
      rotate_left
      · (go_simp; first | rfl | rw [if_neg (by simp; omega)] | rw [if_neg (by omega)])
      (try simp only [Act.put, List.setIfInBounds_toArray, List.set_cons_zero, List.set_cons_succ])
      refine wpSch_nil ?_
      have hX9 : Ext w1 w9 := (hX.trans' (Ext.dr wr)).trans' hb9
      clear p1 q1 k0 k4 bP bQ hb9 hXr HSk
      cases b with
      | true =>
        go_wp2
        exact ⟨⟨k + 1, by omega, by simp, hX9⟩, by simp [intOf]; omega⟩
      | false =>
        go_wp2
        go_ret
        exact ⟨⟨_, rfl⟩, hX1.trans' hX9⟩
    · obtain rfl : k = 4 := by omega
      have p0 := bP.cell 0
      have p1 := bP.cell 1
      have p2 := bP.cell 2
      have q0 := bQ.cell 0
      have q1 := bQ.cell 1
      have q2 := bQ.cell 2
      simp only [Live.cells, List.getElem?_toArray, List.getElem?_cons_zero, List.getElem?_cons_succ] at p0 p1 p2 q0 q1 q2
      go_wp2
      all_goals go_ret
      all_goals exact ⟨⟨_, rfl⟩, hX1.trans' hX⟩

theorem run_append_nothing {P : Program} {w : World} (base : Nat) (t ty e : TypeId) (i : TypeInfo) (size : Nat) (ht : P.underlying t = some (.slice e)) (hi : P.info? e = some i)
    (v : Value) (n : Nat) (xs : List Value) (hown : w.ownsRow base e size v n xs) (B : Option Addr) (c' : Nat) :
    (Builtin.append_ #[t, t] ty #[v, .slice B 0 c']).run P w = .ok v w := by
  rcases hown.2 with ⟨rfl, rfl⟩ | ⟨g, cap, cur, rfl, _, _, hnc, _⟩
  · cases B <;> simp [Builtin.append_, run_underlying ht, sizeOf, typeInfo, hi, Builtin.lenOf, Builtin.firstCells, loadCells, loadCellsFrom]
  · cases B <;> simp [Builtin.append_, run_underlying ht, sizeOf, typeInfo, hi, Builtin.lenOf, Builtin.firstCells, hnc, storeCells, loadCells, loadCellsFrom]
theorem wpList_append_nothing {P : Program} {w : World} {ops : Array Oper} {rest : List Oper} {o : Oper} {a : Act} {Q : Exit → Act → World → Prop} {t e : TypeId} {sz bytes : Nat} (E : ElemOf P t e sz bytes) (hgd : o.guard = none) (s x : Operand)
    (ho : o.op = .call { callee := .builtin .append, args := #[s, x], argTypes := #[t, t] })
    {α : Type} {f : α → List Value} {base : Nat} {A : Option Addr} {c n : Nat} {l : List α} (hn : n = l.length) (hown : Own w base e f sz A c l) (hs : a.eval s = .slice A n c)
    {B : Option Addr} {m c' : Nat} (hx : a.eval x = .slice B m c') (hm : m = 0)
    (h : wpList P ops Q rest (a.put o.dst (.slice A n c)) w) : wpList P ops Q (o :: rest) a w := by
  subst hn
  subst hm
  obtain ⟨i, z, hi, hz, hsz, hby, hzs⟩ := E.info
  refine wpList_plain hgd fun K hK => ?_
  have hrun := run_append_nothing (P := P) (w := w) base t o.type e i sz E.under hi (.slice A l.length c) l.length (l.flatMap f) hown B c'
  unfold Oper.wp
  simp only [execOp, ho, resolve, invoke, builtin, Sem.run_bind, Sem.run_pure, Result.andThen_ok, List.map_toArray, List.map_cons, List.map_nil, hs, hx, hrun]
  exact hK _ _ h

def allTo (v : Live) (k : Nat) : List Table := (List.range k).flatMap v.tab
theorem allTo_succ (v : Live) (k : Nat) : allTo v (k + 1) = allTo v k ++ v.tab k := by simp [allTo, List.range_succ]
theorem allTo_four (v : Live) : allTo v 4 = allOf v := by simp [allTo_succ, allOf, List.append_assoc]; rfl
theorem allTo_len {v : Live} {B : Nat} (h : ∀ k, k < 4 → (v.tab k).length ≤ B) : ∀ k, k ≤ 4 → (allTo v k).length ≤ k * B
  | 0, _ => by simp [allTo]
  | k + 1, hk => by
    have h1 := allTo_len h k (by omega)
    have h2 := h k (by omega)
    rw [allTo_succ, List.length_append, Nat.succ_mul]
    omega

theorem edit_ret {fn : Func} {R : Ending → World → Prop} {a : Act} {W : World} {S : Nat} {v0 v1 v2 v3 v4 : Value} (hres : fn.results = #[.cell 2 35]) (h2 : a.tmps.getD 2 undef = .pointer (some ⟨S, 0, none⟩))
    (hd : a.defers = []) (bZ : Box W S 35 #[v0, v1, v2, v3, v4]) (h : R (.returned (.agg #[v0, v1, v2, v3, v4])) W) : bodyPost Try.prog fn R .ret a W := by
  have z0 := bZ.cell 0
  have z1 := bZ.cell 1
  have z2 := bZ.cell 2
  have z3 := bZ.cell 3
  have z4 := bZ.cell 4
  simp only [List.getElem?_toArray, List.getElem?_cons_zero, List.getElem?_cons_succ] at z0 z1 z2 z3 z4
  have h2' : a.tmps[2]?.getD undef = .pointer (some ⟨S, 0, none⟩) := by simpa using h2
  refine bodyPost_ret ?_ hd h
  simp [results, hres, h2', go_sem, z0, z1, z2, z3, z4]
theorem Box.put5_ {w : World} {g : Nat} {t : TypeId} {u0 u1 u2 u3 u4 : Value} (h : Box w g t #[u0, u1, u2, u3, u4]) (v0 v1 v2 v3 v4 : Value) :
    Box (((((w.setCell ⟨g, 0, none⟩ v0).setCell ⟨g, 1, none⟩ v1).setCell ⟨g, 2, none⟩ v2).setCell ⟨g, 3, none⟩ v3).setCell ⟨g, 4, none⟩ v4) g t #[v0, v1, v2, v3, v4] := by
  have := ((((h.put 0 v0).put 1 v1).put 2 v2).put 3 v3).put 4 v4
  simpa only [List.setIfInBounds_toArray, List.set_cons_zero, List.set_cons_succ] using this
theorem Fr.put5 {S : Nat → Prop} {a w : World} (h : Fr S a w) {g : Nat} (hg : ¬ S g) (v0 v1 v2 v3 v4 : Value) :
    Fr S a (((((w.setCell ⟨g, 0, none⟩ v0).setCell ⟨g, 1, none⟩ v1).setCell ⟨g, 2, none⟩ v2).setCell ⟨g, 3, none⟩ v3).setCell ⟨g, 4, none⟩ v4) :=
  ((((h.set (p := ⟨g, 0, none⟩) v0 (fun _ => hg)).set (p := ⟨g, 1, none⟩) v1 (fun _ => hg)).set (p := ⟨g, 2, none⟩) v2 (fun _ => hg)).set (p := ⟨g, 3, none⟩) v3 (fun _ => hg)).set (p := ⟨g, 4, none⟩) v4 (fun _ => hg)

set_option maxRecDepth 100000 in
set_option maxHeartbeats 800000 in
theorem whole_any (v : Live) (p : Place) (hl : ∀ k, k < 4 → (v.tab k).length ≤ 137438953472) (w : World) (hlat : LiveAt w v p) :
    Calls Try.prog 36 #[.agg (v.cells p)] w fun e w' => ∃ A c, e = .returned (.agg #[.int .u64 v.next, .int .u64 v.seq, .int .u64 v.log, .slice A (allOf v).length c, .slice none 0 0]) ∧
      Row w' 0 w'.heap.size 6 A (allOf v).length ((allOf v).flatMap Table.cells) ∧ Ext w w' := by
  have HL := Lib.hid (fun w' (hb : Ext w w') => hlat.ext hb)
  have HLEN := Lib.hid hl
  clear hl hlat
  go_enter Try.func36, Try.ntmps36
  dsimp only [Live.cells]
  go_wp2_with fail
  obtain ⟨S, hS⟩ : ∃ S, w.heap.size = S := ⟨_, rfl⟩
  obtain ⟨w0, hw0⟩ : ∃ w0, w0 = w.alloc (.cells (v.cells p) 48) := ⟨_, rfl⟩
  rw [show w.alloc (.cells #[.int .u64 v.next, .int .u64 v.seq, .int .u64 v.log, .slice (p.A 0) (v.tab 0).length (p.c 0), .slice (p.A 1) (v.tab 1).length (p.c 1), .slice (p.A 2) (v.tab 2).length (p.c 2), .slice (p.A 3) (v.tab 3).length (p.c 3)] 48) = w0 from hw0.symm]
  have hE_w0 : Ext w w0 := by rw [hw0]; exact Ext.al _ _
  have hz_w0 : w0.heap.size = w.heap.size + 1 := by rw [hw0]; simp
  clear hw0
  (obtain ⟨w1, hw1⟩ : ∃ w1, w1 = World.alloc w0 (.cells #[.int .u64 0, .int .u64 0, .int .u64 0, .slice none 0 0, .slice none 0 0] 35) := ⟨_, rfl⟩); (have hbox_w1 : Box w1 (w0).heap.size 35 #[.int .u64 0, .int .u64 0, .int .u64 0, .slice none 0 0, .slice none 0 0] := by rw [hw1]; exact Box.new _ _ _); (have hE_w1 : Ext w0 w1 := by rw [hw1]; exact Ext.al _ _); (have hz_w1 : (w1).heap.size = (w0).heap.size + 1 := by rw [hw1]; simp); rw [← hw1]; clear hw1
  (obtain ⟨w2, hw2⟩ : ∃ w2, w2 = World.alloc w1 (.cells #[.int .u64 v.next, .int .u64 v.seq, .int .u64 v.log, .slice none 0 0, .slice none 0 0] 35) := ⟨_, rfl⟩); (have hbox_w2 : Box w2 (w1).heap.size 35 #[.int .u64 v.next, .int .u64 v.seq, .int .u64 v.log, .slice none 0 0, .slice none 0 0] := by rw [hw2]; exact Box.new _ _ _); (have hE_w2 : Ext w1 w2 := by rw [hw2]; exact Ext.al _ _); (have hz_w2 : (w2).heap.size = (w1).heap.size + 1 := by rw [hw2]; simp); rw [← hw2]; clear hw2
  have bR := hbox_w1.ext hE_w2
  have bE := hbox_w2
  have hX2 := (hE_w0.trans' hE_w1).trans' hE_w2
  rw [hz_w1, hz_w0, hS] at bE
  rw [hz_w0, hS] at bR
  rw [hS]
  have hz2 : w2.heap.size = S + 3 := by omega
  clear hbox_w1 hbox_w2 hE_w0 hE_w1 hE_w2 hz_w0 hz_w1 hz_w2
  go_loopw [15] (fun i wr => ∃ (k : Nat) (A : Option Addr) (c : Nat), k ≤ 4 ∧ i = .int .i64 k ∧ Box wr (S + 1) 35 #[.int .u64 0, .int .u64 0, .int .u64 0, .slice none 0 0, .slice none 0 0] ∧
    Box wr (S + 1 + 1) 35 #[.int .u64 v.next, .int .u64 v.seq, .int .u64 v.log, .slice A (allTo v k).length c, .slice none 0 0] ∧ Own wr (S + 3) 53 Table.cells 6 A c (allTo v k) ∧ Ext w wr) (fun i _ => 4 - (intOf i).toNat)
  · exact ⟨0, none, 0, by omega, rfl, bR, bE, Own.nil_, hX2⟩
  · clear bR bE hX2 hz2
    obtain ⟨k, A, c, hk, rfl, bR, bE, hown, hX⟩ := hrel
    have hal := allTo_len HLEN.out k hk
    have hzr : S + 1 + 1 < wr.heap.size := bE.lt
    by_cases hlt : k < 4
    · have hlk := HLEN.out k hlt
      have hat := HL.out wr hX k hlt
      have hidx := fun w => v.index p w hlt
      have y0 := bE.cell 0
      have y1 := bE.cell 1
      have y2 := bE.cell 2
      have y3 := bE.cell 3
      have y4 := bE.cell 4
      have yf := bE.frozen
      simp only [List.getElem?_toArray, List.getElem?_cons_zero, List.getElem?_cons_succ] at y0 y1 y2 y3 y4
      by_cases hz : (v.tab k).length = 0
      · have hal2 : allTo v (k + 1) = allTo v k := by rw [allTo_succ, List.eq_nil_of_length_eq_zero hz, List.append_nil]
        have HAL := Lib.hid hal2
        have HB1 := Lib.hid bE
        clear hal2 hat
        go_wp2_with (at_builtin; refine wpList_append_nothing Try.tablesOf rfl _ _ rfl rfl hown rfl rfl (by first | rfl | exact hz) ?_)
        go_wp2
        exact ⟨⟨k + 1, A, c, by omega, by simp, bR.fr (S := fun x => x ≠ S + 1 + 1) ((Fr.refl wr).set (p := ⟨S + 1 + 1, 3, none⟩) _ (fun _ h => h rfl)) (by omega), by rw [HAL.out]; simpa using HB1.out.put 3 _, by rw [HAL.out]; exact hown.fr (S := fun x => x ≠ S + 1 + 1) ((Fr.refl wr).set (p := ⟨S + 1 + 1, 3, none⟩) _ (fun _ h => h rfl)) (fun x h1 _ => by omega), hX.setCell (by show w.heap.size ≤ S + 1 + 1; omega) _⟩, by simp [intOf]; omega⟩
      · obtain ⟨b, off, hA, -, hbw, hc⟩ := hat.mem (by omega)
        simp only [hA] at hidx
        have HAL := Lib.hid (allTo_succ v k)
        have HB1 := Lib.hid bE
        have HC := Lib.hid hc
        have hblk := hown.blk
        have HBLK := Lib.hid hblk
        clear hat hc hblk
        go_wp2_with (at_builtin; refine wpList_append_list Try.tablesOf rfl _ _ rfl (v.tab k) rfl hown rfl rfl rfl Table.cells_len Table.one HC.out (by omega) (by omega) (by omega) ?_)
        rintro A2 c2 w5 ho5 hg5 -
        have hF5 : Fr (fun x => ownBlk A ≠ some x) wr w5 := Fr.of_grown hg5 (fun g e _ h => h e)
        have bE5 := HB1.out.fr hF5 (fun e => by have := HBLK.out _ e; omega)
        have bR5 := bR.fr hF5 (fun e => by have := HBLK.out _ e; omega)
        have hX5 : Ext w w5 := Fr.ext ((Fr.of_ext (S := fun x => x < S) hX).step hF5 (fun x _ h e => by have := HBLK.out _ e; omega)) (by omega)
        have hz5 := hF5.size
        have HB5 := Lib.hid bE5
        have y0 := bE5.cell 0
        have y1 := bE5.cell 1
        have y2 := bE5.cell 2
        have y3 := bE5.cell 3
        have y4 := bE5.cell 4
        have yf := bE5.frozen
        simp only [List.getElem?_toArray, List.getElem?_cons_zero, List.getElem?_cons_succ] at y0 y1 y2 y3 y4
        clear hF5 hg5 bR hX bE bE5 hidx HB1
        go_wp2
        exact ⟨⟨k + 1, A2, c2, by omega, by simp, bR5.fr (S := fun x => x ≠ S + 1 + 1) ((Fr.refl w5).set (p := ⟨S + 1 + 1, 3, none⟩) _ (fun _ h => h rfl)) (by omega), by rw [HAL.out, List.length_append]; simpa using HB5.out.put 3 _, by rw [HAL.out]; exact ho5.fr (S := fun x => x ≠ S + 1 + 1) ((Fr.refl w5).set (p := ⟨S + 1 + 1, 3, none⟩) _ (fun _ h => h rfl)) (fun x h1 _ => by omega), hX5.setCell (by show w.heap.size ≤ S + 1 + 1; omega) _⟩, by simp [intOf]; omega⟩
    · obtain rfl : k = 4 := by omega
      rw [allTo_four] at bE hown
      have y0 := bE.cell 0
      have y1 := bE.cell 1
      have y2 := bE.cell 2
      have y3 := bE.cell 3
      have y4 := bE.cell 4
      have yf := bE.frozen
      have r0 := bR.cell 0
      have r1 := bR.cell 1
      have r2 := bR.cell 2
      have r3 := bR.cell 3
      have r4 := bR.cell 4
      have rf := bR.frozen
      simp only [List.getElem?_toArray, List.getElem?_cons_zero, List.getElem?_cons_succ] at y0 y1 y2 y3 y4 r0 r1 r2 r3 r4
      (try dsimp only); (repeat (first | go_values | go_skip | go_guarded | go_step | go_upon)); (try simp only [Exit.inBlock, Exit.then])
      refine edit_ret rfl rfl rfl (bR.put5_ _ _ _ _ _) ?_
      have hF := fun v0 v1 v2 v3 v4 => Fr.put5 (S := fun x => x ≠ S + 1) (Fr.refl wr) (g := S + 1) (fun h => h rfl) v0 v1 v2 v3 v4
      exact ⟨A, c, rfl, ((hown.fr (hF _ _ _ _ _) (fun x h1 _ => by omega)).row.wide (Nat.zero_le _) (Nat.le_refl _)), Fr.ext ((Fr.of_ext (S := fun x => x < S) hX).step (hF _ _ _ _ _) (fun x _ h => by omega)) (by omega)⟩
end Go.Proofs.Yteplpgknnlehnaa
