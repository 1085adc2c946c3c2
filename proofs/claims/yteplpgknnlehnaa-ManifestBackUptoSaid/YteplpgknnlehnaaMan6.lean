/- Manifests (layer 10): an edit's bytes, the document's walk. -/
import Derived.Test.YteplpgknnlehnaaMan5
namespace Go.Proofs.Yteplpgknnlehnaa
set_option linter.unusedSimpArgs false
set_option linter.unusedVariables false
open Go.RowKit

set_option maxRecDepth 100000 in
set_option maxHeartbeats 800000 in
theorem number_ref (m : Nat) (hm : m < M64) (w : World) :
    Calls Try.prog 51 #[.int .u64 m] w fun e w' => e = .returned (str (putUint m)) ∧ Ext w w' := by
  go_enter Try.func51, Try.ntmps51
  go_wp2_with (go_at_call 73; refine (putUint_ref m hm _).mono ?_; rintro e w1 ⟨rfl, hb⟩)
  go_ret
  exact ⟨rfl, hb⟩

set_option maxRecDepth 100000 in
set_option maxHeartbeats 800000 in
theorem encodeEdit_ref (e : Edit) (h : e.Ok) (A A' : Option Addr) (c c' : Nat) (w : World) (hr : EditAt w w.heap.size e A A') :
    Calls Try.prog 19 #[e.val A A' c c'] w fun r w' => r = .returned (.tuple #[str (encodeEdit e).1, .int .i64 (encodeEdit e).2]) ∧ Ext w w' := by
  have HM := Lib.hid (fun w hr => editMay_ref e h A A' c c' w hr)
  have HR := Lib.hid (fun w' hb => EditAt.ext (w' := w') hr hb)
  by_cases hmay : e.may = true
  · have he : encodeEdit e = putFrame 7 (editBytes e) := if_pos hmay
    rw [he]
    rw [hmay] at HM
    obtain ⟨hl1, hl2, hall⟩ := Edit.may_parts hmay
    have hlen := editBytes_len h hmay
    have HPF := Lib.hid (fun w => framePut_ref 7 (editBytes e) (by omega) w)
    obtain ⟨h1, h2, h3, h4, h5, h6, h7⟩ := h
    obtain ⟨n, s, g, l, d⟩ := e
    dsimp only [Edit.val] at *
    obtain ⟨pre, hpre⟩ : ∃ pre, putUint n ++ putUint s ++ putUint g ++ putUint l.length = pre := ⟨_, rfl⟩
    have hbytes : editBytes ⟨n, s, g, l, d⟩ = pre ++ l.flatMap tableBytes ++ putUint d.length ++ d.flatMap putUint := by rw [← hpre, editBytes]
    obtain ⟨F, hF⟩ : ∃ F, F = putFrame 7 (editBytes ⟨n, s, g, l, d⟩) := ⟨_, rfl⟩
    rw [← hF] at HPF ⊢
    have HB := Lib.hid hbytes
    have HPRE := Lib.hid hpre
    have HALL := Lib.hid hall
    have hl64 : l.length < M64 := by unfold M64; omega
    have hd64 : d.length < M64 := by unfold M64; omega
    have hwl : IntKind.u64.wrap (l.length : Int) = (l.length : Int) := IntWalk.u64_in _ (by omega)
    have p1 := putUint_ten h1
    have p2 := putUint_ten h2
    have p3 := putUint_ten h3
    have p4 := putUint_ten hl64
    have HN1 := Lib.hid (fun w => number_ref n h1 w)
    have HN2 := Lib.hid (fun w => number_ref s h2 w)
    have HN3 := Lib.hid (fun w => number_ref g h3 w)
    have HN4 := Lib.hid (fun w => number_ref l.length hl64 w)
    have HN5 := Lib.hid (fun w => number_ref d.length hd64 w)
    have H5 := Lib.hid h5
    clear hmay he hF hbytes hpre hall h4 h5 hr h1 h2 h3 hl64 hd64
    go_enter Try.func19, Try.ntmps19
    go_wp2_with fail
    (obtain ⟨w0, hw0⟩ : ∃ w0, w0 = World.alloc w (.cells #[.int .u64 n, .int .u64 s, .int .u64 g, .slice A l.length c, .slice A' d.length c'] 35) := ⟨_, rfl⟩); (have hbox_w0 : Box w0 (w).heap.size 35 #[.int .u64 n, .int .u64 s, .int .u64 g, .slice A l.length c, .slice A' d.length c'] := by rw [hw0]; exact Box.new _ _ _); (have hE_w0 : Ext w w0 := by rw [hw0]; exact Ext.al _ _); (have hz_w0 : (w0).heap.size = (w).heap.size + 1 := by rw [hw0]; simp); rw [← hw0]; clear hw0
    refine (HM.out _ (HR.out _ (by (repeat (first | exact Below.refl _ _ | refine Ext.trans' ?_ (Ext.al _ _) | refine Ext.trans' ?_ (Ext.dr _) | refine Ext.trans' ?_ (by assumption)))))).mono ?_
    rintro e w1 ⟨rfl, hb1⟩
    have hbox1 := hbox_w0.ext hb1
    have x0 := hbox1.cell 0
    have x1 := hbox1.cell 1
    have x2 := hbox1.cell 2
    have x3 := hbox1.cell 3
    simp at x0 x1 x2 x3
    have hz1 : w.heap.size < w1.heap.size := by have := hb1.size; omega
    go_wp2_with fail
    refine wp_region_sch (RS ((· = w.heap.size))) 18 [(0, true), (1, true), (3, true), (4, true), (7, true), (8, true), (11, true), (12, true), (13, true), (14, true), (2, false), (5, false), (6, true), (9, false), (10, true), (15, false), (16, true), (17, true)] (by kernel_rfl) (by kernel_rfl) RS.refl RS.trans (fun _ _ d _ _ h => by cases d <;> exact h) ?_
    refine wpSch_q ?_ rfl rfl (fun w' hR => ?_) ?_
    rotate_left
    · (go_simp; first | rfl | rw [if_neg (by simp; omega)] | rw [if_neg (by omega)])
    (try simp only [Act.put, List.setIfInBounds_toArray, List.set_cons_zero, List.set_cons_succ])
    refine wpSch_q ?_ rfl rfl (fun w' hR => ?_) ?_
    rotate_left
    · (obtain ⟨hRs, hRc⟩ := hR; (try have hRd := fun o => hRc _ o rfl (by first | (simp; done) | (simp; omega) | omega)); (try have hRe := fun o => hRc _ o (Or.inl rfl) (by first | (simp; done) | (simp; omega) | omega)); (try have hRf := fun o => hRc _ o (Or.inr rfl) (by first | (simp; done) | (simp; omega) | omega)); (try have hRg := fun o => hRc _ o (Or.inr (Or.inl rfl)) (by first | (simp; done) | (simp; omega) | omega)); (try have hRh := fun o => hRc _ o (Or.inr (Or.inr rfl)) (by first | (simp; done) | (simp; omega) | omega)); go_simp; first | rfl | rw [if_neg (by simp; omega)] | rw [if_neg (by omega)])
    (try simp only [Act.put, List.setIfInBounds_toArray, List.set_cons_zero, List.set_cons_succ])
    refine wpSch_q ?_ rfl rfl (fun w' hR => ?_) ?_
    rotate_left
    · (go_simp; first | rfl | rw [if_neg (by simp; omega)] | rw [if_neg (by omega)])
    (try simp only [Act.put, List.setIfInBounds_toArray, List.set_cons_zero, List.set_cons_succ])
    refine wpSch_q ?_ rfl rfl (fun w' hR => ?_) ?_
    rotate_left
    · (obtain ⟨hRs, hRc⟩ := hR; (try have hRd := fun o => hRc _ o rfl (by first | (simp; done) | (simp; omega) | omega)); (try have hRe := fun o => hRc _ o (Or.inl rfl) (by first | (simp; done) | (simp; omega) | omega)); (try have hRf := fun o => hRc _ o (Or.inr rfl) (by first | (simp; done) | (simp; omega) | omega)); (try have hRg := fun o => hRc _ o (Or.inr (Or.inl rfl)) (by first | (simp; done) | (simp; omega) | omega)); (try have hRh := fun o => hRc _ o (Or.inr (Or.inr rfl)) (by first | (simp; done) | (simp; omega) | omega)); go_simp; first | rfl | rw [if_neg (by simp; omega)] | rw [if_neg (by omega)])
    (try simp only [Act.put, List.setIfInBounds_toArray, List.set_cons_zero, List.set_cons_succ])
    refine wpSch_q ?_ rfl rfl (fun w' hR => ?_) ?_
    rotate_left
    · (go_simp; first | rfl | rw [if_neg (by simp; omega)] | rw [if_neg (by omega)])
    (try simp only [Act.put, List.setIfInBounds_toArray, List.set_cons_zero, List.set_cons_succ])
    refine wpSch_q ?_ rfl rfl (fun w' hR => ?_) ?_
    rotate_left
    · (obtain ⟨hRs, hRc⟩ := hR; (try have hRd := fun o => hRc _ o rfl (by first | (simp; done) | (simp; omega) | omega)); (try have hRe := fun o => hRc _ o (Or.inl rfl) (by first | (simp; done) | (simp; omega) | omega)); (try have hRf := fun o => hRc _ o (Or.inr rfl) (by first | (simp; done) | (simp; omega) | omega)); (try have hRg := fun o => hRc _ o (Or.inr (Or.inl rfl)) (by first | (simp; done) | (simp; omega) | omega)); (try have hRh := fun o => hRc _ o (Or.inr (Or.inr rfl)) (by first | (simp; done) | (simp; omega) | omega)); go_simp; first | rfl | rw [if_neg (by simp; omega)] | rw [if_neg (by omega)])
    (try simp only [Act.put, List.setIfInBounds_toArray, List.set_cons_zero, List.set_cons_succ])
    refine wpSch_q ?_ rfl rfl (fun w' hR => ?_) ?_
    rotate_left
    · (go_simp; first | rfl | rw [if_neg (by simp; omega)] | rw [if_neg (by omega)])
    (try simp only [Act.put, List.setIfInBounds_toArray, List.set_cons_zero, List.set_cons_succ])
    refine wpSch_q ?_ rfl rfl (fun w' hR => ?_) ?_
    rotate_left
    · (obtain ⟨hRs, hRc⟩ := hR; (try have hRd := fun o => hRc _ o rfl (by first | (simp; done) | (simp; omega) | omega)); (try have hRe := fun o => hRc _ o (Or.inl rfl) (by first | (simp; done) | (simp; omega) | omega)); (try have hRf := fun o => hRc _ o (Or.inr rfl) (by first | (simp; done) | (simp; omega) | omega)); (try have hRg := fun o => hRc _ o (Or.inr (Or.inl rfl)) (by first | (simp; done) | (simp; omega) | omega)); (try have hRh := fun o => hRc _ o (Or.inr (Or.inr rfl)) (by first | (simp; done) | (simp; omega) | omega)); go_simp; first | rfl | rw [if_neg (by simp; omega)] | rw [if_neg (by omega)])
    (try simp only [Act.put, List.setIfInBounds_toArray, List.set_cons_zero, List.set_cons_succ])
    refine wpSch_q ?_ rfl rfl (fun w' hR => ?_) ?_
    rotate_left
    · (go_simp; first | rfl | rw [if_neg (by simp; omega)] | rw [if_neg (by omega)])
    (try simp only [Act.put, List.setIfInBounds_toArray, List.set_cons_zero, List.set_cons_succ])
    refine wpSch_q ?_ rfl rfl (fun w' hR => ?_) ?_
    rotate_left
    · (go_simp; first | rfl | rw [if_neg (by simp; omega)] | rw [if_neg (by omega)])
    (try simp only [Act.put, List.setIfInBounds_toArray, List.set_cons_zero, List.set_cons_succ])
    refine wpSch_e rfl rfl (fun K hK => ?_)
    go_simp
    refine (HN1.out _).mono ?_
    rintro e wa ⟨rfl, hba⟩
    refine hK _ _ (fun _ => RS.ext hba) ?_
    clear hK K
    (try simp only [Act.put, List.setIfInBounds_toArray, List.set_cons_zero, List.set_cons_succ])
    refine wpSch_e rfl rfl (fun K hK => ?_)
    go_simp
    refine (HN2.out _).mono ?_
    rintro e wb ⟨rfl, hbb⟩
    refine hK _ _ (fun _ => RS.ext hbb) ?_
    clear hK K
    (try simp only [Act.put, List.setIfInBounds_toArray, List.set_cons_zero, List.set_cons_succ])
    refine wpSch_q ?_ rfl rfl (fun w' hR => ?_) ?_
    rotate_left
    · (go_simp; first | rfl | rw [if_neg (by simp; omega)] | rw [if_neg (by omega)])
    (try simp only [Act.put, List.setIfInBounds_toArray, List.set_cons_zero, List.set_cons_succ])
    refine wpSch_e rfl rfl (fun K hK => ?_)
    go_simp
    refine (HN3.out _).mono ?_
    rintro e wc ⟨rfl, hbc⟩
    refine hK _ _ (fun _ => RS.ext hbc) ?_
    clear hK K
    (try simp only [Act.put, List.setIfInBounds_toArray, List.set_cons_zero, List.set_cons_succ])
    refine wpSch_q ?_ rfl rfl (fun w' hR => ?_) ?_
    rotate_left
    · (go_simp; first | rfl | rw [if_neg (by simp; omega)] | rw [if_neg (by omega)])
    (try simp only [Act.put, List.setIfInBounds_toArray, List.set_cons_zero, List.set_cons_succ])
    refine wpSch_e rfl rfl (fun K hK => ?_)
    go_simp
    refine (HN4.out _).mono ?_
    rintro e wd ⟨rfl, hbd⟩
    refine hK _ _ (fun _ => RS.ext hbd) ?_
    clear hK K
    (try simp only [Act.put, List.setIfInBounds_toArray, List.set_cons_zero, List.set_cons_succ])
    refine wpSch_q ?_ rfl rfl (fun w' hR => ?_) ?_
    rotate_left
    · (go_simp; first | rfl | rw [if_neg (by simp; omega)] | rw [if_neg (by omega)])
    (try simp only [Act.put, List.setIfInBounds_toArray, List.set_cons_zero, List.set_cons_succ])
    refine wpSch_q ?_ rfl rfl (fun w' hR => ?_) ?_
    rotate_left
    · (go_simp; first | rfl | rw [if_neg (by simp; omega)] | rw [if_neg (by omega)])
    (try simp only [Act.put, List.setIfInBounds_toArray, List.set_cons_zero, List.set_cons_succ])
    refine wpSch_nil ?_
    have hE : Ext w1 wd := by (repeat (first | exact Below.refl _ _ | refine Ext.trans' ?_ (Ext.al _ _) | refine Ext.trans' ?_ (Ext.dr _) | refine Ext.trans' ?_ (by assumption)))
    clear x0 x1 x2 x3 hba hbb hbc hbd
    go_wp2
    go_loopw [5, 6] (fun v i wr => ∃ k : Nat, k ≤ l.length ∧ v = str (pre ++ (l.take k).flatMap tableBytes) ∧ i = .int .i64 k ∧ Ext w1 wr) (fun _ i _ => l.length - (intOf i).toNat)
    · exact ⟨0, by simp, by rw [← HPRE.out]; simp [ByteArray.mk_append_mk], rfl, hE⟩
    · clear hE
      obtain ⟨k, hk, rfl, rfl, hE⟩ := hrel
      have hboxr := hbox1.ext hE
      have x3 := hboxr.cell 3
      simp at x3
      have hzr : w.heap.size < wr.heap.size := by have := hE.size; omega
      by_cases hlt : k < l.length
      · obtain ⟨t, ht⟩ : ∃ t, l[k]? = some t := ⟨l[k], List.getElem?_eq_getElem hlt⟩
        obtain ⟨b, off, rfl, -, hbw, hc⟩ := (HR.out _ (hE_w0.trans' (hb1.trans' hE))).add.elem Table.cells_len rfl ht
        have hc0 := hc 0 _ rfl
        have hc1 := hc 1 _ rfl
        have hc2 := hc 2 _ rfl
        have hc3 := hc 3 _ rfl
        have hc4 := hc 4 _ rfl
        have hc5 := hc 5 _ rfl
        rw [Nat.add_zero] at hc0
        obtain ⟨tn, lv, sz, ct, ta, tb, rfl, htm⟩ := Table.may_nat (List.all_eq_true.1 HALL.out t (List.mem_of_getElem? ht))
        dsimp only [Table.cells] at hc0 hc1 hc2 hc3 hc4 hc5
        have HS : Hid ((pre ++ (l.take k).flatMap tableBytes) ++ tableBytes ⟨tn, lv, sz, ct, ta, tb⟩ = pre ++ (l.take (k + 1)).flatMap tableBytes) := by
          unfold Hid
          rw [List.take_add_one, ht]
          simp
        have hL : (pre ++ (l.take k).flatMap tableBytes).length ≤ 400000 := by
          have h1 := hlen
          rw [HB.out] at h1
          have h2 := take_flat_len tableBytes l k
          simp only [List.length_append] at h1 ⊢
          omega
        obtain ⟨m1, m2⟩ := htm.num
        have m3 := htm.lv
        obtain ⟨m4, m5⟩ := htm.sz
        obtain ⟨m6, m7⟩ := htm.ct
        have m8 := htm.a
        have m9 := htm.b
        have q1 : tn < M64 := by unfold M64; omega
        have q2 : lv < M64 := by unfold M64; omega
        have q3 : sz < M64 := by unfold M64; omega
        have q4 : ct < M64 := by unfold M64; omega
        have r1 := putUint_ten q1
        have r2 := putUint_ten q2
        have r3 := putUint_ten q3
        have r4 := putUint_ten q4
        have r5 := putText_length (l := ta) (by omega)
        have r6 := putText_length (l := tb) (by omega)
        have hw2 : IntKind.u64.wrap (lv : Int) = (lv : Int) := IntWalk.u64_in _ (by omega)
        have hw3 : IntKind.u64.wrap (sz : Int) = (sz : Int) := IntWalk.u64_in _ (by omega)
        have hw4 : IntKind.u64.wrap (ct : Int) = (ct : Int) := IntWalk.u64_in _ (by omega)
        obtain ⟨acc, hacc⟩ : ∃ acc, acc = pre ++ (l.take k).flatMap tableBytes := ⟨_, rfl⟩
        rw [← hacc] at HS hL ⊢
        clear hc ht hacc htm
        have hbt := Box.new wr 53 #[.int .u64 tn, .int .i64 lv, .int .i64 sz, .int .i64 ct, str ta, str tb]
        go_wp2_with fail
        refine wp_region_sch (RS ((· = wr.heap.size))) 29 [(0, true), (1, true), (2, true), (5, true), (6, true), (7, true), (10, true), (11, true), (12, true), (15, true), (16, true), (17, true), (20, true), (21, true), (24, true), (25, true), (3, false), (4, true), (8, false), (9, true), (13, false), (14, true), (18, false), (19, true), (22, false), (23, true), (26, false), (27, true), (28, true)] (by kernel_rfl) (by kernel_rfl) RS.refl RS.trans (fun _ _ d _ _ h => by cases d <;> exact h) ?_
        refine wpSch_q ?_ rfl rfl (fun w' hR => ?_) ?_
        rotate_left
        · (go_simp; first | rfl | rw [if_neg (by simp; omega)] | rw [if_neg (by omega)])
        (try simp only [Act.put, List.setIfInBounds_toArray, List.set_cons_zero, List.set_cons_succ])
        refine wpSch_q ?_ rfl rfl (fun w' hR => ?_) ?_
        rotate_left
        · (go_simp; first | rfl | rw [if_neg (by simp; omega)] | rw [if_neg (by omega)])
        (try simp only [Act.put, List.setIfInBounds_toArray, List.set_cons_zero, List.set_cons_succ])
        refine wpSch_q ?_ rfl rfl (fun w' hR => ?_) ?_
        rotate_left
        · (obtain ⟨hRs, hRc⟩ := hR; (try have hRd := fun o => hRc _ o rfl (by first | (simp; done) | (simp; omega) | omega)); (try have hRe := fun o => hRc _ o (Or.inl rfl) (by first | (simp; done) | (simp; omega) | omega)); (try have hRf := fun o => hRc _ o (Or.inr rfl) (by first | (simp; done) | (simp; omega) | omega)); (try have hRg := fun o => hRc _ o (Or.inr (Or.inl rfl)) (by first | (simp; done) | (simp; omega) | omega)); (try have hRh := fun o => hRc _ o (Or.inr (Or.inr rfl)) (by first | (simp; done) | (simp; omega) | omega)); go_simp; first | rfl | rw [if_neg (by simp; omega)] | rw [if_neg (by omega)])
        (try simp only [Act.put, List.setIfInBounds_toArray, List.set_cons_zero, List.set_cons_succ])
        refine wpSch_q ?_ rfl rfl (fun w' hR => ?_) ?_
        rotate_left
        · (go_simp; first | rfl | rw [if_neg (by simp; omega)] | rw [if_neg (by omega)])
        (try simp only [Act.put, List.setIfInBounds_toArray, List.set_cons_zero, List.set_cons_succ])
        refine wpSch_q ?_ rfl rfl (fun w' hR => ?_) ?_
        rotate_left
        · (obtain ⟨hRs, hRc⟩ := hR; (try have hRd := fun o => hRc _ o rfl (by first | (simp; done) | (simp; omega) | omega)); (try have hRe := fun o => hRc _ o (Or.inl rfl) (by first | (simp; done) | (simp; omega) | omega)); (try have hRf := fun o => hRc _ o (Or.inr rfl) (by first | (simp; done) | (simp; omega) | omega)); (try have hRg := fun o => hRc _ o (Or.inr (Or.inl rfl)) (by first | (simp; done) | (simp; omega) | omega)); (try have hRh := fun o => hRc _ o (Or.inr (Or.inr rfl)) (by first | (simp; done) | (simp; omega) | omega)); go_simp; first | rfl | rw [if_neg (by simp; omega)] | rw [if_neg (by omega)])
        (try simp only [Act.put, List.setIfInBounds_toArray, List.set_cons_zero, List.set_cons_succ])
        refine wpSch_q ?_ rfl rfl (fun w' hR => ?_) ?_
        rotate_left
        · (go_simp; first | rfl | rw [if_neg (by simp; omega)] | rw [if_neg (by omega)])
        (try simp only [Act.put, List.setIfInBounds_toArray, List.set_cons_zero, List.set_cons_succ])
        refine wpSch_q ?_ rfl rfl (fun w' hR => ?_) ?_
        rotate_left
        · (go_simp; first | rfl | rw [if_neg (by simp; omega)] | rw [if_neg (by omega)])
        (try simp only [Act.put, List.setIfInBounds_toArray, List.set_cons_zero, List.set_cons_succ])
        refine wpSch_q ?_ rfl rfl (fun w' hR => ?_) ?_
        rotate_left
        · (obtain ⟨hRs, hRc⟩ := hR; (try have hRd := fun o => hRc _ o rfl (by first | (simp; done) | (simp; omega) | omega)); (try have hRe := fun o => hRc _ o (Or.inl rfl) (by first | (simp; done) | (simp; omega) | omega)); (try have hRf := fun o => hRc _ o (Or.inr rfl) (by first | (simp; done) | (simp; omega) | omega)); (try have hRg := fun o => hRc _ o (Or.inr (Or.inl rfl)) (by first | (simp; done) | (simp; omega) | omega)); (try have hRh := fun o => hRc _ o (Or.inr (Or.inr rfl)) (by first | (simp; done) | (simp; omega) | omega)); go_simp; first | rfl | rw [if_neg (by simp; omega)] | rw [if_neg (by omega)])
        (try simp only [Act.put, List.setIfInBounds_toArray, List.set_cons_zero, List.set_cons_succ])
        refine wpSch_q ?_ rfl rfl (fun w' hR => ?_) ?_
        rotate_left
        · (go_simp; first | rfl | rw [if_neg (by simp; omega)] | rw [if_neg (by omega)])
        (try simp only [Act.put, List.setIfInBounds_toArray, List.set_cons_zero, List.set_cons_succ])
        refine wpSch_q ?_ rfl rfl (fun w' hR => ?_) ?_
        rotate_left
        · (go_simp; first | rfl | rw [if_neg (by simp; omega)] | rw [if_neg (by omega)])
        (try simp only [Act.put, List.setIfInBounds_toArray, List.set_cons_zero, List.set_cons_succ])
        refine wpSch_q ?_ rfl rfl (fun w' hR => ?_) ?_
        rotate_left
        · (obtain ⟨hRs, hRc⟩ := hR; (try have hRd := fun o => hRc _ o rfl (by first | (simp; done) | (simp; omega) | omega)); (try have hRe := fun o => hRc _ o (Or.inl rfl) (by first | (simp; done) | (simp; omega) | omega)); (try have hRf := fun o => hRc _ o (Or.inr rfl) (by first | (simp; done) | (simp; omega) | omega)); (try have hRg := fun o => hRc _ o (Or.inr (Or.inl rfl)) (by first | (simp; done) | (simp; omega) | omega)); (try have hRh := fun o => hRc _ o (Or.inr (Or.inr rfl)) (by first | (simp; done) | (simp; omega) | omega)); go_simp; first | rfl | rw [if_neg (by simp; omega)] | rw [if_neg (by omega)])
        (try simp only [Act.put, List.setIfInBounds_toArray, List.set_cons_zero, List.set_cons_succ])
        refine wpSch_q ?_ rfl rfl (fun w' hR => ?_) ?_
        rotate_left
        · (go_simp; first | rfl | rw [if_neg (by simp; omega)] | rw [if_neg (by omega)])
        (try simp only [Act.put, List.setIfInBounds_toArray, List.set_cons_zero, List.set_cons_succ])
        refine wpSch_q ?_ rfl rfl (fun w' hR => ?_) ?_
        rotate_left
        · (go_simp; first | rfl | rw [if_neg (by simp; omega)] | rw [if_neg (by omega)])
        (try simp only [Act.put, List.setIfInBounds_toArray, List.set_cons_zero, List.set_cons_succ])
        refine wpSch_q ?_ rfl rfl (fun w' hR => ?_) ?_
        rotate_left
        · (obtain ⟨hRs, hRc⟩ := hR; (try have hRd := fun o => hRc _ o rfl (by first | (simp; done) | (simp; omega) | omega)); (try have hRe := fun o => hRc _ o (Or.inl rfl) (by first | (simp; done) | (simp; omega) | omega)); (try have hRf := fun o => hRc _ o (Or.inr rfl) (by first | (simp; done) | (simp; omega) | omega)); (try have hRg := fun o => hRc _ o (Or.inr (Or.inl rfl)) (by first | (simp; done) | (simp; omega) | omega)); (try have hRh := fun o => hRc _ o (Or.inr (Or.inr rfl)) (by first | (simp; done) | (simp; omega) | omega)); go_simp; first | rfl | rw [if_neg (by simp; omega)] | rw [if_neg (by omega)])
        (try simp only [Act.put, List.setIfInBounds_toArray, List.set_cons_zero, List.set_cons_succ])
        refine wpSch_q ?_ rfl rfl (fun w' hR => ?_) ?_
        rotate_left
        · (go_simp; first | rfl | rw [if_neg (by simp; omega)] | rw [if_neg (by omega)])
        (try simp only [Act.put, List.setIfInBounds_toArray, List.set_cons_zero, List.set_cons_succ])
        refine wpSch_q ?_ rfl rfl (fun w' hR => ?_) ?_
        rotate_left
        · (obtain ⟨hRs, hRc⟩ := hR; (try have hRd := fun o => hRc _ o rfl (by first | (simp; done) | (simp; omega) | omega)); (try have hRe := fun o => hRc _ o (Or.inl rfl) (by first | (simp; done) | (simp; omega) | omega)); (try have hRf := fun o => hRc _ o (Or.inr rfl) (by first | (simp; done) | (simp; omega) | omega)); (try have hRg := fun o => hRc _ o (Or.inr (Or.inl rfl)) (by first | (simp; done) | (simp; omega) | omega)); (try have hRh := fun o => hRc _ o (Or.inr (Or.inr rfl)) (by first | (simp; done) | (simp; omega) | omega)); go_simp; first | rfl | rw [if_neg (by simp; omega)] | rw [if_neg (by omega)])
        (try simp only [Act.put, List.setIfInBounds_toArray, List.set_cons_zero, List.set_cons_succ])
        refine wpSch_e rfl rfl (fun K hK => ?_)
        go_simp
        refine (number_ref tn q1 _).mono ?_
        rintro e wa ⟨rfl, hba⟩
        refine hK _ _ (fun _ => RS.ext hba) ?_
        clear hK K
        (try simp only [Act.put, List.setIfInBounds_toArray, List.set_cons_zero, List.set_cons_succ])
        refine wpSch_q ?_ rfl rfl (fun w' hR => ?_) ?_
        rotate_left
        · (go_simp; first | rfl | rw [if_neg (by simp; omega)] | rw [if_neg (by omega)])
        (try simp only [Act.put, List.setIfInBounds_toArray, List.set_cons_zero, List.set_cons_succ])
        refine wpSch_e rfl rfl (fun K hK => ?_)
        go_simp
        refine (number_ref lv q2 _).mono ?_
        rintro e wb ⟨rfl, hbb⟩
        refine hK _ _ (fun _ => RS.ext hbb) ?_
        clear hK K
        (try simp only [Act.put, List.setIfInBounds_toArray, List.set_cons_zero, List.set_cons_succ])
        refine wpSch_q ?_ rfl rfl (fun w' hR => ?_) ?_
        rotate_left
        · (go_simp; first | rfl | rw [if_neg (by simp; omega)] | rw [if_neg (by omega)])
        (try simp only [Act.put, List.setIfInBounds_toArray, List.set_cons_zero, List.set_cons_succ])
        refine wpSch_e rfl rfl (fun K hK => ?_)
        go_simp
        refine (number_ref sz q3 _).mono ?_
        rintro e wc ⟨rfl, hbc⟩
        refine hK _ _ (fun _ => RS.ext hbc) ?_
        clear hK K
        (try simp only [Act.put, List.setIfInBounds_toArray, List.set_cons_zero, List.set_cons_succ])
        refine wpSch_q ?_ rfl rfl (fun w' hR => ?_) ?_
        rotate_left
        · (go_simp; first | rfl | rw [if_neg (by simp; omega)] | rw [if_neg (by omega)])
        (try simp only [Act.put, List.setIfInBounds_toArray, List.set_cons_zero, List.set_cons_succ])
        refine wpSch_e rfl rfl (fun K hK => ?_)
        go_simp
        refine (number_ref ct q4 _).mono ?_
        rintro e wd ⟨rfl, hbd⟩
        refine hK _ _ (fun _ => RS.ext hbd) ?_
        clear hK K
        (try simp only [Act.put, List.setIfInBounds_toArray, List.set_cons_zero, List.set_cons_succ])
        refine wpSch_q ?_ rfl rfl (fun w' hR => ?_) ?_
        rotate_left
        · (go_simp; first | rfl | rw [if_neg (by simp; omega)] | rw [if_neg (by omega)])
        (try simp only [Act.put, List.setIfInBounds_toArray, List.set_cons_zero, List.set_cons_succ])
        refine wpSch_e rfl rfl (fun K hK => ?_)
        go_simp
        refine (putText_ref ta (by omega) _).mono ?_
        rintro e we ⟨rfl, hbe⟩
        refine hK _ _ (fun _ => RS.ext hbe) ?_
        clear hK K
        (try simp only [Act.put, List.setIfInBounds_toArray, List.set_cons_zero, List.set_cons_succ])
        refine wpSch_q ?_ rfl rfl (fun w' hR => ?_) ?_
        rotate_left
        · (go_simp; first | rfl | rw [if_neg (by simp; omega)] | rw [if_neg (by omega)])
        (try simp only [Act.put, List.setIfInBounds_toArray, List.set_cons_zero, List.set_cons_succ])
        refine wpSch_e rfl rfl (fun K hK => ?_)
        go_simp
        refine (putText_ref tb (by omega) _).mono ?_
        rintro e wf ⟨rfl, hbf⟩
        refine hK _ _ (fun _ => RS.ext hbf) ?_
        clear hK K
        (try simp only [Act.put, List.setIfInBounds_toArray, List.set_cons_zero, List.set_cons_succ])
        refine wpSch_q ?_ rfl rfl (fun w' hR => ?_) ?_
        rotate_left
        · (go_simp; first | rfl | rw [if_neg (by simp; omega)] | rw [if_neg (by omega)])
        (try simp only [Act.put, List.setIfInBounds_toArray, List.set_cons_zero, List.set_cons_succ])
        refine wpSch_q ?_ rfl rfl (fun w' hR => ?_) ?_
        rotate_left
        · (go_simp; first | rfl | rw [if_neg (by simp; omega)] | rw [if_neg (by omega)])
        (try simp only [Act.put, List.setIfInBounds_toArray, List.set_cons_zero, List.set_cons_succ])
        refine wpSch_nil ?_
        go_wp2
        exact ⟨⟨k + 1, by omega, by rw [← HS.out]; simp [tableBytes, ByteArray.mk_append_mk], by simp, by (repeat (first | exact Below.refl _ _ | refine Ext.trans' ?_ (Ext.al _ _) | refine Ext.trans' ?_ (Ext.dr _) | refine Ext.trans' ?_ (by assumption)))⟩, by simp [intOf]; omega⟩
      · rw [List.take_of_length_le (by omega)]
        have x4 := hboxr.cell 4
        simp at x4
        have hwd : IntKind.u64.wrap (d.length : Int) = (d.length : Int) := IntWalk.u64_in _ (by omega)
        obtain ⟨pr, hpr⟩ : ∃ pr, pr = pre ++ l.flatMap tableBytes := ⟨_, rfl⟩
        have hbb := HB.out
        rw [← hpr] at hbb ⊢
        have HBB := Lib.hid hbb
        have hlb := hlen
        rw [hbb] at hlb
        simp only [List.length_append] at hlb
        have r5 := putUint_ten (n := d.length) (by unfold M64; omega)
        have hpl : pr.length ≤ 400000 := by omega
        clear hbb hpr
        go_wp2_with fail
        refine (HN5.out _).mono ?_
        rintro e w2 ⟨rfl, hb2⟩
        go_wp2
        have hE2 : Ext w1 w2 := hE.trans' hb2
        clear hE hboxr x3 x4 hb2
        go_loopw [5, 8] (fun v i wr => ∃ k : Nat, k ≤ d.length ∧ v = str (pr ++ putUint d.length ++ (d.take k).flatMap putUint) ∧ i = .int .i64 k ∧ Ext w1 wr) (fun _ i _ => d.length - (intOf i).toNat)
        · exact ⟨0, by simp, by simp [ByteArray.mk_append_mk], rfl, hE2⟩
        · clear hE2
          obtain ⟨k, hk, rfl, rfl, hE⟩ := hrel
          have hboxr := hbox1.ext hE
          have x4 := hboxr.cell 4
          simp at x4
          have hzr : w.heap.size < wr.heap.size := by have := hE.size; omega
          by_cases hlt : k < d.length
          · obtain ⟨t, ht⟩ : ∃ t, d[k]? = some t := ⟨d[k], List.getElem?_eq_getElem hlt⟩
            obtain ⟨b, off, rfl, -, hbw, hc⟩ := (HR.out _ (hE_w0.trans' (hb1.trans' hE))).drop.elem u64C_len rfl ht
            have hc0 := hc 0 _ rfl
            rw [Nat.add_zero, Nat.mul_one] at hc0
            have HNT := Lib.hid (fun w => number_ref t (H5.out t (List.mem_of_getElem? ht)) w)
            have HS : Hid ((pr ++ putUint d.length ++ (d.take k).flatMap putUint) ++ putUint t = pr ++ putUint d.length ++ (d.take (k + 1)).flatMap putUint) := by
              unfold Hid
              rw [List.take_add_one, ht]
              simp
            have hL : (pr ++ putUint d.length ++ (d.take k).flatMap putUint).length ≤ 400000 := by
              have h2 := take_flat_len putUint d k
              simp only [List.length_append]
              omega
            have r1 := putUint_ten (H5.out t (List.mem_of_getElem? ht))
            obtain ⟨acc, hacc⟩ : ∃ acc, acc = pr ++ putUint d.length ++ (d.take k).flatMap putUint := ⟨_, rfl⟩
            rw [← hacc] at HS hL ⊢
            clear hc ht hacc
            go_wp2_with fail
            refine (HNT.out _).mono ?_
            rintro e w3 ⟨rfl, hb3⟩
            go_wp2
            exact ⟨⟨k + 1, by omega, by rw [← HS.out]; simp [ByteArray.mk_append_mk], by simp, by (repeat (first | exact Below.refl _ _ | refine Ext.trans' ?_ (Ext.al _ _) | refine Ext.trans' ?_ (Ext.dr _) | refine Ext.trans' ?_ (by assumption)))⟩, by simp [intOf]; omega⟩
          · rw [List.take_of_length_le (by omega), ← HBB.out]
            go_wp2_with fail
            refine (HPF.out _).mono ?_
            rintro e w4 ⟨rfl, hb4⟩
            go_wp2
            go_ret2
            exact ⟨rfl, (hE_w0.trans' (hb1.trans' hE)).trans' hb4⟩
  · have he : encodeEdit e = ([], 1) := if_neg hmay
    rw [he]
    rw [Bool.not_eq_true _ |>.mp hmay] at HM
    obtain ⟨n, s, g, l, d⟩ := e
    dsimp only [Edit.val] at *
    clear hmay he h hr
    go_enter Try.func19, Try.ntmps19
    go_wp2_with fail
    (obtain ⟨w0, hw0⟩ : ∃ w0, w0 = World.alloc w (.cells #[.int .u64 n, .int .u64 s, .int .u64 g, .slice A l.length c, .slice A' d.length c'] 35) := ⟨_, rfl⟩); (have hbox_w0 : Box w0 (w).heap.size 35 #[.int .u64 n, .int .u64 s, .int .u64 g, .slice A l.length c, .slice A' d.length c'] := by rw [hw0]; exact Box.new _ _ _); (have hE_w0 : Ext w w0 := by rw [hw0]; exact Ext.al _ _); (have hz_w0 : (w0).heap.size = (w).heap.size + 1 := by rw [hw0]; simp); rw [← hw0]; clear hw0
    refine (HM.out _ (HR.out _ (by (repeat (first | exact Below.refl _ _ | refine Ext.trans' ?_ (Ext.al _ _) | refine Ext.trans' ?_ (Ext.dr _) | refine Ext.trans' ?_ (by assumption)))))).mono ?_
    rintro e w1 ⟨rfl, hb1⟩
    go_wp2
    go_ret2
    exact ⟨rfl, by (repeat (first | exact Below.refl _ _ | refine Ext.trans' ?_ (Ext.al _ _) | refine Ext.trans' ?_ (Ext.dr _) | refine Ext.trans' ?_ (by assumption)))⟩
end Go.Proofs.Yteplpgknnlehnaa
