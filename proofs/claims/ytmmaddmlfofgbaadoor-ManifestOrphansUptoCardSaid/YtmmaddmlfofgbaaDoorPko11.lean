/- Parts of this work, one behind the other: Made. -/
import Derived.Test.YtmmaddmlfofgbaaDoorPko9
import Derived.Test.YtmmaddmlfofgbaaDoorPko8
import Derived.Test.YtmmaddmlfofgbaaDoorPko0
/- What edits make of nothing, as the laws gather it (layer 10): the walk. -/
namespace Go.Proofs.YtmmaddmlfofgbaaDoor
set_option linter.unusedSimpArgs false
set_option linter.unusedVariables false
open Go.RowKit

theorem LE.one (q : LE) : ∀ u ∈ q.cells, u.oneCell' = true := by simp [LE.cells, Value.oneCell']
theorem Tryd.editsOf : ElemOf Tryd.prog 22 39 5 72 := elemOf_mk Tryd.underlying22 (z := .agg #[.int .u64 0, .int .u64 0, .int .u64 0, .slice none 0 0, .slice none 0 0]) (by kernel_rfl) rfl (by decide)
/-- rows that lie between two places -/
def RowsIn (w : World) (lo hi : Nat) (v : Live) (p : Place) : Prop := ∀ k, k < 4 → Row w lo hi 6 (p.A k) (v.tab k).length ((v.tab k).flatMap Table.cells)
theorem RowsIn.live {w : World} {lo hi : Nat} {v : Live} {p : Place} (h : RowsIn w lo hi v p) (hh : hi ≤ w.heap.size) : LiveAt w v p := fun k hk => (h k hk).wide (Nat.zero_le _) hh
theorem RowsIn.fr {S : Nat → Prop} {w w' : World} {lo hi : Nat} {v : Live} {p : Place} (h : RowsIn w lo hi v p) (hf : Fr S w w') (hh : hi ≤ w.heap.size) (hs : ∀ b, lo ≤ b → b < hi → S b) : RowsIn w' lo hi v p := fun k hk => (h k hk).fr hf hh hs
theorem RowsIn.ext {w w' : World} {lo hi : Nat} {v : Live} {p : Place} (h : RowsIn w lo hi v p) (hf : Ext w w') (hh : hi ≤ w.heap.size) : RowsIn w' lo hi v p := h.fr (S := fun _ => True) (Fr.of_ext hf) hh (fun _ _ _ => trivial)
theorem madeOf_good {L : List LE} (hq : ∀ q ∈ L, q.e.Ok) : ∀ k, k ≤ L.length → GoodM k (madeOf (L.take k)).1 := by
  intro k
  induction k with
  | zero => intro _; exact GoodM.zero
  | succ k ih =>
    intro hk
    have hg := ih (by omega)
    have ht : L.take (k + 1) = L.take k ++ [L[k]] := by rw [List.take_add_one, List.getElem?_eq_getElem (by omega)]; rfl
    rw [ht, madeOf_snoc]
    unfold madeStep
    split
    · rename_i hz
      obtain ⟨g1, g2⟩ := apply_grow hz (hq _ (List.getElem_mem _)) hg.num
      exact ⟨(apply_same hg.srt _).2, fun j hj => by have h1 := g1 j; have h2 := hg.len j hj; dsimp only; omega, g2⟩
    · exact ⟨hg.srt, fun j hj => by have := hg.len j hj; omega, hg.num⟩
theorem madeOf_next {L : List LE} {i : Nat} {q : LE} {v : Live} {D : List LE} (hi : L[i]? = some q) (h : madeOf (L.take i) = (v, D)) : madeOf (L.take (i + 1)) = madeStep (v, D) q := by
  rw [List.take_add_one, hi]
  show madeOf (L.take i ++ [q]) = _
  rw [madeOf_snoc, h]
theorem made_ret {fn : Func} {R : Ending → World → Prop} {a : Act} {W : World} {S : Nat} {v : Live} {p : Place} {x : Value} (hres : fn.results = #[.cell 2 28, .tmp 3]) (h2 : a.tmps.getD 2 undef = .pointer (some ⟨S, 0, none⟩)) (h3 : a.tmps.getD 3 undef = x)
    (hd : a.defers = []) (bZ : Box W S 28 (v.cells p)) (h : R (.returned (.tuple #[.agg (v.cells p), x])) W) : bodyPost Tryd.prog fn R .ret a W := by
  have z0 := bZ.cell 0
  have z1 := bZ.cell 1
  have z2 := bZ.cell 2
  have z3 := bZ.cell 3
  have z4 := bZ.cell 4
  have z5 := bZ.cell 5
  have z6 := bZ.cell 6
  unfold Live.cells at z0 z1 z2 z3 z4 z5 z6 h
  simp only [List.getElem?_toArray, List.getElem?_cons_zero, List.getElem?_cons_succ] at z0 z1 z2 z3 z4 z5 z6
  have h2' : a.tmps[2]?.getD undef = .pointer (some ⟨S, 0, none⟩) := by simpa using h2
  have h3' : a.tmps[3]?.getD undef = x := by simpa using h3
  refine bodyPost_ret ?_ hd h
  simp [results, hres, h2', h3', go_sem, z0, z1, z2, z3, z4, z5, z6]
set_option maxRecDepth 100000 in
set_option maxHeartbeats 1600000 in
theorem made_any (L0 : List LE) (hL : L0.length ≤ 1048576) (hq : ∀ q ∈ L0, q.e.Ok ∧ q.e.drop.length ≤ q.c') (A0 : Option Addr) (c0 : Nat) (w : World) (hr : EditsR w A0 L0) :
    Calls Tryd.prog 4 #[.slice A0 L0.length c0] w fun e w' => ∃ p A c, e = .returned (.tuple #[.agg ((madeOf L0).1.cells p), .slice A (madeOf L0).2.length c]) ∧ LiveAt w' (madeOf L0).1 p ∧
      Own w' w.heap.size 39 LE.cells 5 A c (madeOf L0).2 ∧ Ext w w' := by
  have HR := Lib.hid (fun w' (hb : Ext w w') => hr.ext hb)
  have hr0 := Lib.hid hr
  have HQ := Lib.hid hq
  have HGD := Lib.hid (madeOf_good (L := L0) (fun q h => (hq q h).1))
  clear hr hq
  go_enter Tryd.func4, Tryd.ntmps4
  go_wp2_with fail
  obtain ⟨S, hS⟩ : ∃ S, w.heap.size = S := ⟨_, rfl⟩
  (obtain ⟨w0, hw0⟩ : ∃ w0, w0 = World.alloc w (.cells #[.int .u64 0, .int .u64 0, .int .u64 0, .slice none 0 0, .slice none 0 0, .slice none 0 0, .slice none 0 0] 28) := ⟨_, rfl⟩); (have hbox_w0 : Box w0 (w).heap.size 28 #[.int .u64 0, .int .u64 0, .int .u64 0, .slice none 0 0, .slice none 0 0, .slice none 0 0, .slice none 0 0] := by rw [hw0]; exact Box.new _ _ _); (have hE_w0 : Ext w w0 := by rw [hw0]; exact Ext.al _ _); (have hz_w0 : (w0).heap.size = (w).heap.size + 1 := by rw [hw0]; simp); rw [← hw0]; clear hw0
  (obtain ⟨w1, hw1⟩ : ∃ w1, w1 = World.alloc w0 (.cells #[.int .u64 0, .int .u64 0, .int .u64 0, .slice none 0 0, .slice none 0 0, .slice none 0 0, .slice none 0 0] 28) := ⟨_, rfl⟩); (have hbox_w1 : Box w1 (w0).heap.size 28 #[.int .u64 0, .int .u64 0, .int .u64 0, .slice none 0 0, .slice none 0 0, .slice none 0 0, .slice none 0 0] := by rw [hw1]; exact Box.new _ _ _); (have hE_w1 : Ext w0 w1 := by rw [hw1]; exact Ext.al _ _); (have hz_w1 : (w1).heap.size = (w0).heap.size + 1 := by rw [hw1]; simp); rw [← hw1]; clear hw1
  have ba := hbox_w0.ext hE_w1
  have bb := hbox_w1
  have hX1 := hE_w0.trans' hE_w1
  rw [hz_w0, hS] at bb
  rw [hS] at ba hz_w0 ⊢
  clear hbox_w0 hbox_w1 hE_w0 hE_w1
  have hz1 : w1.heap.size = S + 2 := by omega
  clear hz_w0 hz_w1
  go_loopw [5, 6] (fun v5 v6 wr => ∃ (i : Nat) (v : Live) (D : List LE) (A : Option Addr) (c : Nat) (p : Place) (lo hi : Nat), i ≤ L0.length ∧ v5 = .slice A D.length c ∧ v6 = .int .i64 i ∧ Hid (madeOf (L0.take i) = (v, D)) ∧
    Box wr S 28 #[.int .u64 0, .int .u64 0, .int .u64 0, .slice none 0 0, .slice none 0 0, .slice none 0 0, .slice none 0 0] ∧ Box wr (S + 1) 28 (v.cells p) ∧ RowsIn wr lo hi v p ∧ S + 2 ≤ lo ∧ hi ≤ wr.heap.size ∧
    (∀ g, ownBlk A = some g → g < lo ∨ hi ≤ g) ∧ Own wr (S + 2) 39 LE.cells 5 A c D ∧ Ext w wr) (fun _ i _ => L0.length - (intOf i).toNat)
  · exact ⟨0, noLive, [], none, 0, noPlace, S + 2, S + 2, by omega, rfl, rfl, rfl, ba, bb, fun k hk => ⟨rfl, fun h => absurd h (by simp [noLive])⟩, Nat.le_refl _, by omega, (fun g e => by cases e), Own.nil_, hX1⟩
  · clear ba bb hX1 hz1
    obtain ⟨i, v, D, A, c, p, lo, hi, hi0, rfl, rfl, hmade, ba, bb, hrows, hlo, hhi, hap, hown, hX⟩ := hrel
    have hzr : S + 1 < wr.heap.size := bb.lt
    have hgd := HGD.out i hi0
    rw [hmade.out] at hgd; dsimp only at hgd
    by_cases hlk : i < L0.length
    · obtain ⟨q, hq⟩ : ∃ q, L0[i]? = some q := ⟨_, List.getElem?_eq_getElem hlk⟩
      have hqm := List.mem_of_getElem? hq
      obtain ⟨b, off, hA, -, hbw, hc⟩ := hr0.out.row.elem LE.cells_len rfl hq
      have hbS : b < S := by omega
      have hok := (HQ.out q hqm).1
      have hcd := (HQ.out q hqm).2
      have hat := (HR.out _ hX).at_ q hqm
      have HOK := Lib.hid hok
      have HB := Lib.hid (fun w' (hb : Ext wr w') => (HR.out _ (hX.trans' hb)).at_ q hqm)
      have HC := Lib.hid (fun w' (hb : Ext w w') j u (hj : q.cells[j]? = some u) => (hb.cell (p := ⟨b, off + i * 5 + j, none⟩) hbw).trans (hc j u hj))
      have HM := Lib.hid (madeOf_next hq hmade.out)
      have hDl : D.length ≤ i := by
        have := (madeOf_facts (L0.take i)).2.2
        rw [hmade.out, List.length_take] at this
        dsimp only at this
        omega
      have hv37 : ∀ j, j < 4 → (v.tab j).length ≤ 137438953472 := fun j hj => by have := hgd.len j hj; omega
      have HREF := Lib.hid (fun (w' : World) (hb : Ext wr w') => apply_ref v p q.e HOK.out hv37 q.A q.A' q.c q.c' hcd w' (HB.out w' hb) ((hrows.live hhi).ext hb))
      obtain ⟨⟨o, no⟩, hro⟩ : ∃ r, applyWith putRef v q.e = r := ⟨_, rfl⟩
      rw [hro] at HREF
      have HRO := Lib.hid hro
      obtain ⟨N, hN⟩ : ∃ N, wr.heap.size = N := ⟨_, rfl⟩
      have hAN : ∀ g, ownBlk A = some g → S + 2 ≤ g ∧ g < N := fun g e => by have := hown.blk g e; omega
      have s0 := bb.cell 0
      have s1 := bb.cell 1
      have s2 := bb.cell 2
      have s3 := bb.cell 3
      have s4 := bb.cell 4
      have s5 := bb.cell 5
      have s6 := bb.cell 6
      have e0 := HC.out wr hX 0 _ rfl
      have e1 := HC.out wr hX 1 _ rfl
      have e2 := HC.out wr hX 2 _ rfl
      have e3 := HC.out wr hX 3 _ rfl
      have e4 := HC.out wr hX 4 _ rfl
      rw [Nat.add_zero] at e0
      simp only [Live.cells, List.getElem?_toArray, List.getElem?_cons_zero, List.getElem?_cons_succ] at s0 s1 s2 s3 s4 s5 s6
      rw [hA]
      clear hc hq hqm hok hat hro hmade hcd hgd
      have j0 : (0 : Int) ≤ (i : Int) := by omega
      have j1 : (i : Int) < (L0.length : Int) := by omega
      have hbr : b < wr.heap.size := by omega
      have hrd : Ext wr wr.drew := Ext.dr wr
      go_wp2_with fail
      refine wp_region_tr (RS ((fun x => x = S + 1 ∨ x = b))) 12 (.q 0 (.q 1 (.q 2 (.q 3 (.q 4 (.fork 5 9 (.q 6 (.q 7 (.q 8 (.e 9 (.e 10 (.q 11 .done)))))) (.e 5 (.q 6 (.q 7 (.q 8 (.e 10 (.q 11 .done)))))))))))) (by kernel_rfl) (by kernel_rfl) RS.refl RS.trans (fun _ _ d _ _ h => by cases d <;> exact h) ?_
      refine wpTr_q ?_ rfl rfl (fun w' hR => ?_) ?_
      rotate_left
      · (obtain ⟨hRs, hRc⟩ := hR; (try have hRd := fun o => hRc _ o (rfl) (by first | (simp; done) | (simp; omega) | omega)); (try have hRe := fun o => hRc _ o (Or.inl rfl) (by first | (simp; done) | (simp; omega) | omega)); (try have hRf := fun o => hRc _ o (Or.inr rfl) (by first | (simp; done) | (simp; omega) | omega)); (try have hRg := fun o => hRc _ o (Or.inr (Or.inl rfl)) (by first | (simp; done) | (simp; omega) | omega)); (try have hRh := fun o => hRc _ o (Or.inr (Or.inr rfl)) (by first | (simp; done) | (simp; omega) | omega)); go_simp; first | rfl | rw [if_neg (by simp; omega)] | rw [if_neg (by omega)])
      (try simp only [Act.put, List.setIfInBounds_toArray, List.set_cons_zero, List.set_cons_succ])
      refine wpTr_q ?_ rfl rfl (fun w' hR => ?_) ?_
      rotate_left
      · (go_simp; first | rfl | rw [if_neg (by simp; omega)] | rw [if_neg (by omega)])
      (try simp only [Act.put, List.setIfInBounds_toArray, List.set_cons_zero, List.set_cons_succ])
      refine wpTr_q ?_ rfl rfl (fun w' hR => ?_) ?_
      rotate_left
      · (go_simp; first | rfl | rw [if_neg (by simp; omega)] | rw [if_neg (by omega)])
      (try simp only [Act.put, List.setIfInBounds_toArray, List.set_cons_zero, List.set_cons_succ])
      refine wpTr_q ?_ rfl rfl (fun w' hR => ?_) ?_
      rotate_left
      · (go_simp; first | rfl | rw [if_neg (by simp; omega)] | rw [if_neg (by omega)])
      (try simp only [Act.put, List.setIfInBounds_toArray, List.set_cons_zero, List.set_cons_succ])
      refine wpTr_q ?_ rfl rfl (fun w' hR => ?_) ?_
      rotate_left
      · (obtain ⟨hRs, hRc⟩ := hR; (try have hRd := fun o => hRc _ o (rfl) (by first | (simp; done) | (simp; omega) | omega)); (try have hRe := fun o => hRc _ o (Or.inl rfl) (by first | (simp; done) | (simp; omega) | omega)); (try have hRf := fun o => hRc _ o (Or.inr rfl) (by first | (simp; done) | (simp; omega) | omega)); (try have hRg := fun o => hRc _ o (Or.inr (Or.inl rfl)) (by first | (simp; done) | (simp; omega) | omega)); (try have hRh := fun o => hRc _ o (Or.inr (Or.inr rfl)) (by first | (simp; done) | (simp; omega) | omega)); go_simp; first | rfl | rw [if_neg (by simp; omega)] | rw [if_neg (by omega)])
      (try simp only [Act.put, List.setIfInBounds_toArray, List.set_cons_zero, List.set_cons_succ])
      refine wpTr_fork ?_ ?_
      refine wpTr_e rfl rfl (fun K hK => ?_)
      go_simp
      refine (HREF.out wr.drew hrd).mono ?_
      rintro e wA ⟨p4, rfl, hin4, hbA⟩
      refine hK _ _ (fun _ => RS.fr (S' := fun _ => True) (Fr.of_ext hbA) (fun _ _ _ => trivial)) ?_
      clear hK K
      (try simp only [Act.put, List.setIfInBounds_toArray, List.set_cons_zero, List.set_cons_succ])
      (dsimp only [livVal, Live.cells]; have hzA : wr.heap.size ≤ wA.heap.size := hbA.size)
      refine wpTr_q ?_ rfl rfl (fun w' hR => ?_) ?_
      rotate_left
      · (go_simp; first | rfl | rw [if_neg (by simp; omega)] | rw [if_neg (by omega)])
      (try simp only [Act.put, List.setIfInBounds_toArray, List.set_cons_zero, List.set_cons_succ])
      refine wpTr_q ?_ rfl rfl (fun w' hR => ?_) ?_
      rotate_left
      · (go_simp; first | rfl | rw [if_neg (by simp; omega)] | rw [if_neg (by omega)])
      (try simp only [Act.put, List.setIfInBounds_toArray, List.set_cons_zero, List.set_cons_succ])
      refine wpTr_q ?_ rfl rfl (fun w' hR => ?_) ?_
      rotate_left
      · (go_simp; first | rfl | rw [if_neg (by simp; omega)] | rw [if_neg (by omega)])
      (try simp only [Act.put, List.setIfInBounds_toArray, List.set_cons_zero, List.set_cons_succ])
      refine wpTr_e rfl rfl (fun K hK => ?_)
      go_simp
      refine hK _ _ (fun _ => RS.alloc _) ?_
      clear hK K
      (try simp only [Act.put, List.setIfInBounds_toArray, List.set_cons_zero, List.set_cons_succ])
      refine wpTr_e rfl rfl (fun K hK => ?_)
      go_simp
      refine hK _ _ (fun _ => RS.fr (S' := fun x => x ≠ wA.heap.size) (Fr.realloc _ _ _) (fun x _ h => by rcases h with rfl | rfl <;> omega)) ?_
      clear hK K
      (try simp only [Act.put, List.setIfInBounds_toArray, List.set_cons_zero, List.set_cons_succ])
      refine wpTr_q ?_ rfl rfl (fun w' hR => ?_) ?_
      rotate_left
      · (go_simp; first | rfl | rw [if_neg (by simp; omega)] | rw [if_neg (by omega)])
      (try simp only [Act.put, List.setIfInBounds_toArray, List.set_cons_zero, List.set_cons_succ])
      refine wpTr_done ?_
      rotate_left
      refine wpTr_e rfl rfl (fun K hK => ?_)
      go_simp
      refine hK _ _ (fun _ => RS.alloc _) ?_
      clear hK K
      (try simp only [Act.put, List.setIfInBounds_toArray, List.set_cons_zero, List.set_cons_succ])
      refine wpTr_e rfl rfl (fun K hK => ?_)
      go_simp
      refine (HREF.out (wr.drew.alloc (.cells #[.int .u64 0, .int .u64 0, .int .u64 0, .slice none 0 0, .slice none 0 0, .slice none 0 0, .slice none 0 0] 28)) (hrd.trans' (Ext.al _ _))).mono ?_
      rintro e wA ⟨p4, rfl, hin4, hbA⟩
      refine hK _ _ (fun _ => RS.fr (S' := fun _ => True) (Fr.of_ext hbA) (fun _ _ _ => trivial)) ?_
      clear hK K
      (try simp only [Act.put, List.setIfInBounds_toArray, List.set_cons_zero, List.set_cons_succ])
      (dsimp only [livVal, Live.cells]; have bZ := (Box.new_at wr.drew 28 #[.int .u64 0, .int .u64 0, .int .u64 0, .slice none 0 0, .slice none 0 0, .slice none 0 0, .slice none 0 0] N hN.symm).ext hbA; have z0 := bZ.cell 0; have z1 := bZ.cell 1; have z2 := bZ.cell 2; have z3 := bZ.cell 3; have z4 := bZ.cell 4; have z5 := bZ.cell 5; have z6 := bZ.cell 6; have zf := bZ.frozen; simp only [List.getElem?_toArray, List.getElem?_cons_zero, List.getElem?_cons_succ] at z0 z1 z2 z3 z4 z5 z6)
      refine wpTr_q ?_ rfl rfl (fun w' hR => ?_) ?_
      rotate_left
      · (go_simp; first | rfl | rw [if_neg (by simp; omega)] | rw [if_neg (by omega)])
      (try simp only [Act.put, List.setIfInBounds_toArray, List.set_cons_zero, List.set_cons_succ])
      refine wpTr_q ?_ rfl rfl (fun w' hR => ?_) ?_
      rotate_left
      · (go_simp; first | rfl | rw [if_neg (by simp; omega)] | rw [if_neg (by omega)])
      (try simp only [Act.put, List.setIfInBounds_toArray, List.set_cons_zero, List.set_cons_succ])
      refine wpTr_q ?_ rfl rfl (fun w' hR => ?_) ?_
      rotate_left
      · (go_simp; first | rfl | rw [if_neg (by simp; omega)] | rw [if_neg (by omega)])
      (try simp only [Act.put, List.setIfInBounds_toArray, List.set_cons_zero, List.set_cons_succ])
      refine wpTr_e rfl rfl (fun K hK => ?_)
      go_simp
      refine hK _ _ (fun _ => RS.fr (S' := fun x => x ≠ N) (Fr.put7 (Fr.refl wA) (g := N) (fun k => k rfl) _ _ _ _ _ _ _) (fun x _ h => by rcases h with rfl | rfl <;> omega)) ?_
      clear hK K
      (try simp only [Act.put, List.setIfInBounds_toArray, List.set_cons_zero, List.set_cons_succ])
      refine wpTr_q ?_ rfl rfl (fun w' hR => ?_) ?_
      rotate_left
      · (go_simp; first | rfl | rw [if_neg (by simp; omega)] | rw [if_neg (by omega)])
      (try simp only [Act.put, List.setIfInBounds_toArray, List.set_cons_zero, List.set_cons_succ])
      refine wpTr_done ?_
      rotate_left
      · obtain ⟨X, hXe⟩ : ∃ X, wA.heap.size = X := ⟨_, rfl⟩
        obtain ⟨w7, hw7⟩ : ∃ w7, w7 = wA.alloc (.cells (o.cells p4) 28) := ⟨_, rfl⟩
        rw [show wA.alloc (.cells #[.int .u64 o.next, .int .u64 o.seq, .int .u64 o.log, .slice (p4.A 0) (o.tab 0).length (p4.c 0), .slice (p4.A 1) (o.tab 1).length (p4.c 1), .slice (p4.A 2) (o.tab 2).length (p4.c 2), .slice (p4.A 3) (o.tab 3).length (p4.c 3)] 28) = w7 from hw7.symm, hXe]
        have bW7 : Box w7 X 28 (o.cells p4) := by rw [hw7]; exact Box.new_at _ _ _ _ hXe.symm
        have hEA : Ext wr wA := (Ext.dr wr).trans' hbA
        have hE7 : Ext wr w7 := by rw [hw7]; exact hEA.trans' (Ext.al _ _)
        have hin7 : LiveIn w7 N o p4 := fun j hj => by
          have h1 := (hin4 j hj).below (Ext.al wA (.cells (o.cells p4) 28)) (Nat.le_refl _)
          rw [hw7]
          exact h1.wide (by show N ≤ wr.heap.size; omega) (Ext.al wA (.cells (o.cells p4) 28)).size
        have hXN : N ≤ X := by have := hEA.size; omega
        clear hin4 hbA hw7 hXe hzA hEA hrd s0 s1 s2 s3 s4 s5 s6 e0 e1 e2 e3 e4
        have ba7 := ba.ext hE7
        have bb7 := bb.ext hE7
        have ho7 := hown.ext hE7
        have hX7 := hX.trans' hE7
        have hrows7 := hrows.ext hE7 hhi
        have hz7 := hE7.size
        have n0 := bW7.cell 0
        have n1 := bW7.cell 1
        have n2 := bW7.cell 2
        have n3 := bW7.cell 3
        have n4 := bW7.cell 4
        have n5 := bW7.cell 5
        have n6 := bW7.cell 6
        have b0 := bb7.cell 0
        have b1 := bb7.cell 1
        have b2 := bb7.cell 2
        have b3 := bb7.cell 3
        have b4 := bb7.cell 4
        have b5 := bb7.cell 5
        have b6 := bb7.cell 6
        have bf := bb7.frozen
        simp only [Live.cells, List.getElem?_toArray, List.getElem?_cons_zero, List.getElem?_cons_succ] at n0 n1 n2 n3 n4 n5 n6 b0 b1 b2 b3 b4 b5 b6
        have hXS1 : ¬ X = S + 1 := by omega
        have hbS1 : ¬ b = S + 1 := by omega
        have hbw7 : b < w7.heap.size := by omega
        have HC7 := HC
        clear ba bb hown hX hrows
        by_cases hno : no = 0
        · have HST : Hid (madeOf (L0.take (i + 1)) = (o, D ++ [q])) := by
            unfold Hid
            rw [HM.out]
            simp only [madeStep]
            rw [if_pos (by rw [HRO.out]; exact hno), HRO.out]
          subst hno
          have hno' : ((0 : Int) == (0 : Int)) = true := rfl
          (try dsimp only)
          iterate 22 (first | go_values | go_skip | go_guarded | go_step | go_upon | go_in | go_back)
          obtain ⟨w8, hw8⟩ : ∃ w8, w8 = (((((((w7.setCell ⟨S + 1, 0, none⟩ (.int .u64 o.next)).setCell ⟨S + 1, 1, none⟩ (.int .u64 o.seq)).setCell ⟨S + 1, 2, none⟩ (.int .u64 o.log)).setCell ⟨S + 1, 3, none⟩ (.slice (p4.A 0) (o.tab 0).length (p4.c 0))).setCell ⟨S + 1, 4, none⟩ (.slice (p4.A 1) (o.tab 1).length (p4.c 1))).setCell ⟨S + 1, 5, none⟩ (.slice (p4.A 2) (o.tab 2).length (p4.c 2))).setCell ⟨S + 1, 6, none⟩ (.slice (p4.A 3) (o.tab 3).length (p4.c 3))) := ⟨_, rfl⟩
          rw [← hw8]
          have hF8 : Fr (fun x => x ≠ S + 1) w7 w8 := by rw [hw8]; exact Fr.put7 (Fr.refl w7) (g := S + 1) (fun h => h rfl) _ _ _ _ _ _ _
          have bb8 : Box w8 (S + 1) 28 (o.cells p4) := by rw [hw8]; exact bb7.put7 _ _ _ _ _ _ _
          have hX8 : Ext w w8 := by rw [hw8]; exact Below.put7 hX7 (by omega) _ _ _ _ _ _ _
          have hz8 : w8.heap.size = w7.heap.size := by rw [hw8]; simp
          have ba8 := ba7.fr hF8 (by omega)
          have ho8 := ho7.fr hF8 (fun x h1 _ => by omega)
          have hrows8 : RowsIn w8 N w8.heap.size o p4 := by
            rw [hz8]
            exact (show RowsIn w7 N w7.heap.size o p4 from hin7).fr hF8 (Nat.le_refl _) (fun x h1 _ => by omega)
          have hNz8 : N ≤ w8.heap.size := by omega
          clear HB HREF HQ HRO HM hF8 hw8 n0 n1 n2 n3 n4 n5 n6 b0 b1 b2 b3 b4 b5 b6 bf bb7 ba7 ho7 hrows7 hX7 hE7 bW7 hin7 hz7 hXN hXS1
          have hbw8 : b < w8.heap.size := by omega
          clear hz8 hbw7
          have e0 := HC.out w8 hX8 0 _ rfl
          have e1 := HC.out w8 hX8 1 _ rfl
          have e2 := HC.out w8 hX8 2 _ rfl
          have e3 := HC.out w8 hX8 3 _ rfl
          have e4 := HC.out w8 hX8 4 _ rfl
          rw [Nat.add_zero] at e0
          have HAN := Lib.hid hAN
          clear hAN hap HC HC7
          go_wp2_with (at_builtin; refine wpList_push_at Tryd.editsOf rfl _ _ rfl q rfl ho8 rfl (by first | rfl | (simp; done) | (simp; rfl)) rfl (LE.cells_len _) (LE.one _) (by omega) (by omega) (by omega) ?_)
          rintro A2 c2 w10 ho10 hg10 hat10
          have hAN := HAN.out
          have hF10 : Fr (fun x => ownBlk A ≠ some x) w8 w10 := ((Fr.refl w8).alloc _).grown_step hg10 (fun g e _ h => h e)
          have ba10 := ba8.fr hF10 (fun e => by have := hAN _ e; omega)
          have bb10 := bb8.fr hF10 (fun e => by have := hAN _ e; omega)
          have hrows10 := hrows8.fr hF10 (Nat.le_refl _) (fun x h1 _ e => by have := hAN _ e; omega)
          have hap10 : ∀ g, ownBlk A2 = some g → g < N ∨ w8.heap.size ≤ g := fun g e => by
            rcases hat10 g e with h1 | h1
            · exact .inl (hAN g h1).2
            · exact .inr h1
          have hX10 : Ext w w10 := Fr.ext ((Fr.of_ext (S := fun x => x < S) hX8).step hF10 (fun x _ h e => by have := hAN _ e; omega)) (by omega)
          have hz10 := hF10.size
          have hN2 : S + 2 ≤ N := by omega
          clear hF10 hat10 hg10 e0 e1 e2 e3 e4 bb8 ba8 ho8 hrows8 hX8 hAN HAN
          go_wp2
          exact ⟨⟨i + 1, o, D ++ [q], A2, c2, p4, N, w8.heap.size, by omega, by simp, by simp, HST, ba10, bb10, hrows10, hN2, hz10, hap10, ho10, hX10⟩, by simp [intOf]; omega⟩
        · have HST : Hid (madeOf (L0.take (i + 1)) = (v, D)) := by
            unfold Hid
            rw [HM.out]
            simp only [madeStep]
            rw [if_neg (by rw [HRO.out]; exact hno)]
          have hno' : (no == (0 : Int)) = false := by simpa using hno
          go_wp2
          exact ⟨⟨i + 1, v, D, A, c, p, lo, hi, by omega, rfl, by simp, HST, ba7, bb7, hrows7, hlo, by omega, hap, ho7, hX7⟩, by simp [intOf]; omega⟩
      · obtain ⟨w7, hw7⟩ : ∃ w7, w7 = (((((((wA.setCell ⟨N, 0, none⟩ (.int .u64 o.next)).setCell ⟨N, 1, none⟩ (.int .u64 o.seq)).setCell ⟨N, 2, none⟩ (.int .u64 o.log)).setCell ⟨N, 3, none⟩ (.slice (p4.A 0) (o.tab 0).length (p4.c 0))).setCell ⟨N, 4, none⟩ (.slice (p4.A 1) (o.tab 1).length (p4.c 1))).setCell ⟨N, 5, none⟩ (.slice (p4.A 2) (o.tab 2).length (p4.c 2))).setCell ⟨N, 6, none⟩ (.slice (p4.A 3) (o.tab 3).length (p4.c 3))) := ⟨_, rfl⟩
        rw [← hw7]
        obtain ⟨X, hXe⟩ : ∃ X, N = X := ⟨_, rfl⟩
        have bW7 : Box w7 X 28 (o.cells p4) := by rw [hw7, ← hXe]; exact bZ.put7 _ _ _ _ _ _ _
        have hEA : Ext wr wA := ((Ext.dr wr).trans' (Ext.al _ _)).trans' hbA
        have hE7 : Ext wr w7 := by rw [hw7]; exact Below.put7 hEA (by omega) _ _ _ _ _ _ _
        have hFA : Fr (fun x => x ≠ N) wA w7 := by rw [hw7]; exact Fr.put7 (Fr.refl wA) (g := N) (fun k => k rfl) _ _ _ _ _ _ _
        have hlo4 : (wr.drew.alloc (.cells #[.int .u64 0, .int .u64 0, .int .u64 0, .slice none 0 0, .slice none 0 0, .slice none 0 0, .slice none 0 0] 28)).heap.size = N + 1 := by
          have h1 : wr.drew.heap.size = N := hN
          simp [h1]
        have hin7 : LiveIn w7 N o p4 := fun j hj => by
          have h1 := hin4 j hj
          rw [hlo4] at h1
          exact (h1.fr hFA (Nat.le_refl _) (fun x h1 _ => by omega)).wide (Nat.le_succ _) hFA.size
        have hXN : N ≤ X := by omega
        rw [hXe]
        clear hin4 hbA hw7 hEA hFA hlo4 bZ z0 z1 z2 z3 z4 z5 z6 zf hrd s0 s1 s2 s3 s4 s5 s6 e0 e1 e2 e3 e4
        have ba7 := ba.ext hE7
        have bb7 := bb.ext hE7
        have ho7 := hown.ext hE7
        have hX7 := hX.trans' hE7
        have hrows7 := hrows.ext hE7 hhi
        have hz7 := hE7.size
        have n0 := bW7.cell 0
        have n1 := bW7.cell 1
        have n2 := bW7.cell 2
        have n3 := bW7.cell 3
        have n4 := bW7.cell 4
        have n5 := bW7.cell 5
        have n6 := bW7.cell 6
        have b0 := bb7.cell 0
        have b1 := bb7.cell 1
        have b2 := bb7.cell 2
        have b3 := bb7.cell 3
        have b4 := bb7.cell 4
        have b5 := bb7.cell 5
        have b6 := bb7.cell 6
        have bf := bb7.frozen
        simp only [Live.cells, List.getElem?_toArray, List.getElem?_cons_zero, List.getElem?_cons_succ] at n0 n1 n2 n3 n4 n5 n6 b0 b1 b2 b3 b4 b5 b6
        have hXS1 : ¬ X = S + 1 := by omega
        have hbS1 : ¬ b = S + 1 := by omega
        have hbw7 : b < w7.heap.size := by omega
        have HC7 := HC
        clear ba bb hown hX hrows
        by_cases hno : no = 0
        · have HST : Hid (madeOf (L0.take (i + 1)) = (o, D ++ [q])) := by
            unfold Hid
            rw [HM.out]
            simp only [madeStep]
            rw [if_pos (by rw [HRO.out]; exact hno), HRO.out]
          subst hno
          have hno' : ((0 : Int) == (0 : Int)) = true := rfl
          (try dsimp only)
          iterate 22 (first | go_values | go_skip | go_guarded | go_step | go_upon | go_in | go_back)
          obtain ⟨w8, hw8⟩ : ∃ w8, w8 = (((((((w7.setCell ⟨S + 1, 0, none⟩ (.int .u64 o.next)).setCell ⟨S + 1, 1, none⟩ (.int .u64 o.seq)).setCell ⟨S + 1, 2, none⟩ (.int .u64 o.log)).setCell ⟨S + 1, 3, none⟩ (.slice (p4.A 0) (o.tab 0).length (p4.c 0))).setCell ⟨S + 1, 4, none⟩ (.slice (p4.A 1) (o.tab 1).length (p4.c 1))).setCell ⟨S + 1, 5, none⟩ (.slice (p4.A 2) (o.tab 2).length (p4.c 2))).setCell ⟨S + 1, 6, none⟩ (.slice (p4.A 3) (o.tab 3).length (p4.c 3))) := ⟨_, rfl⟩
          rw [← hw8]
          have hF8 : Fr (fun x => x ≠ S + 1) w7 w8 := by rw [hw8]; exact Fr.put7 (Fr.refl w7) (g := S + 1) (fun h => h rfl) _ _ _ _ _ _ _
          have bb8 : Box w8 (S + 1) 28 (o.cells p4) := by rw [hw8]; exact bb7.put7 _ _ _ _ _ _ _
          have hX8 : Ext w w8 := by rw [hw8]; exact Below.put7 hX7 (by omega) _ _ _ _ _ _ _
          have hz8 : w8.heap.size = w7.heap.size := by rw [hw8]; simp
          have ba8 := ba7.fr hF8 (by omega)
          have ho8 := ho7.fr hF8 (fun x h1 _ => by omega)
          have hrows8 : RowsIn w8 N w8.heap.size o p4 := by
            rw [hz8]
            exact (show RowsIn w7 N w7.heap.size o p4 from hin7).fr hF8 (Nat.le_refl _) (fun x h1 _ => by omega)
          have hNz8 : N ≤ w8.heap.size := by omega
          clear HB HREF HQ HRO HM hF8 hw8 n0 n1 n2 n3 n4 n5 n6 b0 b1 b2 b3 b4 b5 b6 bf bb7 ba7 ho7 hrows7 hX7 hE7 bW7 hin7 hz7 hXN hXS1
          have hbw8 : b < w8.heap.size := by omega
          clear hz8 hbw7
          have e0 := HC.out w8 hX8 0 _ rfl
          have e1 := HC.out w8 hX8 1 _ rfl
          have e2 := HC.out w8 hX8 2 _ rfl
          have e3 := HC.out w8 hX8 3 _ rfl
          have e4 := HC.out w8 hX8 4 _ rfl
          rw [Nat.add_zero] at e0
          have HAN := Lib.hid hAN
          clear hAN hap HC HC7
          go_wp2_with (at_builtin; refine wpList_push_at Tryd.editsOf rfl _ _ rfl q rfl ho8 rfl (by first | rfl | (simp; done) | (simp; rfl)) rfl (LE.cells_len _) (LE.one _) (by omega) (by omega) (by omega) ?_)
          rintro A2 c2 w10 ho10 hg10 hat10
          have hAN := HAN.out
          have hF10 : Fr (fun x => ownBlk A ≠ some x) w8 w10 := ((Fr.refl w8).alloc _).grown_step hg10 (fun g e _ h => h e)
          have ba10 := ba8.fr hF10 (fun e => by have := hAN _ e; omega)
          have bb10 := bb8.fr hF10 (fun e => by have := hAN _ e; omega)
          have hrows10 := hrows8.fr hF10 (Nat.le_refl _) (fun x h1 _ e => by have := hAN _ e; omega)
          have hap10 : ∀ g, ownBlk A2 = some g → g < N ∨ w8.heap.size ≤ g := fun g e => by
            rcases hat10 g e with h1 | h1
            · exact .inl (hAN g h1).2
            · exact .inr h1
          have hX10 : Ext w w10 := Fr.ext ((Fr.of_ext (S := fun x => x < S) hX8).step hF10 (fun x _ h e => by have := hAN _ e; omega)) (by omega)
          have hz10 := hF10.size
          have hN2 : S + 2 ≤ N := by omega
          clear hF10 hat10 hg10 e0 e1 e2 e3 e4 bb8 ba8 ho8 hrows8 hX8 hAN HAN
          go_wp2
          exact ⟨⟨i + 1, o, D ++ [q], A2, c2, p4, N, w8.heap.size, by omega, by simp, by simp, HST, ba10, bb10, hrows10, hN2, hz10, hap10, ho10, hX10⟩, by simp [intOf]; omega⟩
        · have HST : Hid (madeOf (L0.take (i + 1)) = (v, D)) := by
            unfold Hid
            rw [HM.out]
            simp only [madeStep]
            rw [if_neg (by rw [HRO.out]; exact hno)]
          have hno' : (no == (0 : Int)) = false := by simpa using hno
          go_wp2
          exact ⟨⟨i + 1, v, D, A, c, p, lo, hi, by omega, rfl, by simp, HST, ba7, bb7, hrows7, hlo, by omega, hap, ho7, hX7⟩, by simp [intOf]; omega⟩
    · obtain rfl : i = L0.length := by omega
      have hm : madeOf L0 = (v, D) := by have := hmade.out; rwa [List.take_length] at this
      have hla := hrows.live hhi
      have a0 := ba.cell 0
      have a1 := ba.cell 1
      have a2 := ba.cell 2
      have a3 := ba.cell 3
      have a4 := ba.cell 4
      have a5 := ba.cell 5
      have a6 := ba.cell 6
      have af := ba.frozen
      have b0 := bb.cell 0
      have b1 := bb.cell 1
      have b2 := bb.cell 2
      have b3 := bb.cell 3
      have b4 := bb.cell 4
      have b5 := bb.cell 5
      have b6 := bb.cell 6
      simp only [Live.cells, List.getElem?_toArray, List.getElem?_cons_zero, List.getElem?_cons_succ] at a0 a1 a2 a3 a4 a5 a6 b0 b1 b2 b3 b4 b5 b6
      have HMM := Lib.hid hm
      clear hm hmade hgd
      (try dsimp only); (repeat (first | go_values | go_skip | go_guarded | go_step | go_upon)); (try simp only [Exit.inBlock, Exit.then])
      refine made_ret (v := v) (p := p) rfl rfl rfl rfl (ba.put7 _ _ _ _ _ _ _) ?_
      rw [HMM.out]
      have hFS := fun a0 a1 a2 a3 a4 a5 a6 => Fr.put7 (S := fun x => x ≠ S) (Fr.refl wr) (g := S) (fun h => h rfl) a0 a1 a2 a3 a4 a5 a6
      exact ⟨p, A, c, rfl, fun j hj => ((hrows j hj).fr (hFS _ _ _ _ _ _ _) hhi (fun x h1 _ => by omega)).wide (Nat.zero_le _) (Nat.le_trans hhi (hFS _ _ _ _ _ _ _).size), (hown.fr (hFS _ _ _ _ _ _ _) (fun x h1 _ => by omega)).lower (by omega), Below.put7 hX (by omega) _ _ _ _ _ _ _⟩
end Go.Proofs.YtmmaddmlfofgbaaDoor
