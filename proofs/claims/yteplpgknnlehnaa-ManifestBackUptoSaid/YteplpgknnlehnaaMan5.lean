/- Manifests (layer 10): an edit's bytes, the program's walk. -/
import Derived.Test.YteplpgknnlehnaaMan4
namespace Go.Proofs.Yteplpgknnlehnaa
set_option linter.unusedSimpArgs false
set_option linter.unusedVariables false
open Go.RowKit

def tableBytes (t : Table) : List UInt8 := putUint t.num ++ putUint t.level.toNat ++ putUint t.size.toNat ++ putUint t.count.toNat ++ putText t.least ++ putText t.great
def editBytes (e : Edit) : List UInt8 := putUint e.next ++ putUint e.seq ++ putUint e.log ++ putUint e.add.length ++ e.add.flatMap tableBytes ++ putUint e.drop.length ++ e.drop.flatMap putUint
def encodeEdit (e : Edit) : List UInt8 × Int := if e.may then putFrame 7 (editBytes e) else ([], 1)

theorem take_flat_len {α β : Type} (f : α → List β) (l : List α) (k : Nat) : ((l.take k).flatMap f).length ≤ (l.flatMap f).length := by
  have h : l.flatMap f = (l.take k).flatMap f ++ (l.drop k).flatMap f := by rw [← List.flatMap_append, List.take_append_drop]
  rw [h, List.length_append]
  omega
structure TableMay (num lv sz ct : Nat) (a b : List UInt8) : Prop where
  num : 1 ≤ num ∧ num ≤ 4611686018427387904
  lv : lv < 4
  sz : 1 ≤ sz ∧ sz ≤ 1073741824
  ct : 1 ≤ ct ∧ ct ≤ 1073741824
  a : a.length ≤ 96
  b : b.length ≤ 96
theorem Table.may_nat {t : Table} (h : t.may = true) : ∃ num lv sz ct a b, t = ⟨num, (lv : Nat), (sz : Nat), (ct : Nat), a, b⟩ ∧ TableMay num lv sz ct a b := by
  obtain ⟨num, lv, sz, ct, a, b⟩ := t
  simp only [Table.may, mayKey, Bool.and_eq_true, decide_eq_true_eq] at h
  obtain ⟨⟨⟨⟨⟨⟨⟨⟨⟨⟨h1, h2⟩, h3⟩, h4⟩, h5⟩, h6⟩, h7⟩, h8⟩, ⟨-, h9⟩⟩, ⟨-, h10⟩⟩, -⟩ := h
  obtain ⟨lv, rfl⟩ := Int.eq_ofNat_of_zero_le h3
  obtain ⟨sz, rfl⟩ := Int.eq_ofNat_of_zero_le (by omega : 0 ≤ sz)
  obtain ⟨ct, rfl⟩ := Int.eq_ofNat_of_zero_le (by omega : 0 ≤ ct)
  exact ⟨num, lv, sz, ct, a, b, rfl, ⟨by omega, by omega⟩, by omega, ⟨by omega, by omega⟩, ⟨by omega, by omega⟩, h9, h10⟩
theorem tableBytes_len {t : Table} (h : t.may = true) : (tableBytes t).length ≤ 300 := by
  obtain ⟨num, lv, sz, ct, a, b, rfl, hm⟩ := Table.may_nat h
  have h1 := putUint_ten (n := num) (by have := hm.num; unfold M64; omega)
  have h2 := putUint_ten (n := lv) (by have := hm.lv; unfold M64; omega)
  have h3 := putUint_ten (n := sz) (by have := hm.sz; unfold M64; omega)
  have h4 := putUint_ten (n := ct) (by have := hm.ct; unfold M64; omega)
  have h5 := putText_length (l := a) (by have := hm.a; omega)
  have h6 := putText_length (l := b) (by have := hm.b; omega)
  have := hm.a
  have := hm.b
  simp only [tableBytes, List.length_append, Int.toNat_natCast]
  omega
theorem tables_len {l : List Table} (h : l.all Table.may = true) : (l.flatMap tableBytes).length ≤ 300 * l.length := by
  induction l with
  | nil => simp
  | cons t l ih =>
    simp only [List.all_cons, Bool.and_eq_true] at h
    have h1 := tableBytes_len h.1
    have h2 := ih h.2
    rw [List.flatMap_cons, List.length_append, List.length_cons]
    omega
theorem Edit.may_parts {e : Edit} (h : e.may = true) : e.add.length ≤ 1000 ∧ e.drop.length ≤ 1000 ∧ e.add.all Table.may = true := by
  simp only [Edit.may, Bool.and_eq_true, Bool.not_eq_true', Bool.or_eq_false_iff, decide_eq_false_iff_not] at h
  exact ⟨by omega, by omega, h.2.1⟩
theorem editBytes_len {e : Edit} (hok : e.Ok) (h : e.may = true) : (editBytes e).length ≤ 400000 := by
  obtain ⟨h1, h2, h3⟩ := Edit.may_parts h
  have a1 := putUint_ten hok.next
  have a2 := putUint_ten hok.seq
  have a3 := putUint_ten hok.log
  have a4 := putUint_ten (n := e.add.length) (by unfold M64; omega)
  have a5 := tables_len h3
  have a6 := putUint_ten (n := e.drop.length) (by unfold M64; omega)
  have a7 := numbers_len e.drop hok.drop
  simp only [editBytes, List.length_append]
  omega

set_option maxRecDepth 100000 in
set_option maxHeartbeats 800000 in
theorem encodeEdit_any (e : Edit) (h : e.Ok) (A A' : Option Addr) (c c' : Nat) (w : World) (hr : EditAt w w.heap.size e A A') :
    Calls Try.prog 18 #[e.val A A' c c'] w fun r w' => r = .returned (.tuple #[str (encodeEdit e).1, .int .i64 (encodeEdit e).2]) ∧ Ext w w' := by
  have HM := Lib.hid (fun w hr => editMay_any e h A A' c c' w hr)
  have HR := Lib.hid (fun w' hb => EditAt.ext (w' := w') hr hb)
  by_cases hmay : e.may = true
  · have he : encodeEdit e = putFrame 7 (editBytes e) := if_pos hmay
    rw [he]
    rw [hmay] at HM
    obtain ⟨hl1, hl2, hall⟩ := Edit.may_parts hmay
    have hlen := editBytes_len h hmay
    have HPF := Lib.hid (fun w => framePut_any 7 (editBytes e) (by omega) w)
    obtain ⟨h1, h2, h3, h4, h5, h6, h7⟩ := h
    obtain ⟨n, s, g, l, d⟩ := e
    dsimp only [Edit.val] at *
    obtain ⟨pre, hpre⟩ : ∃ pre, pre = putUint n ++ putUint s ++ putUint g ++ putUint l.length := ⟨_, rfl⟩
    have hbytes : editBytes ⟨n, s, g, l, d⟩ = pre ++ l.flatMap tableBytes ++ putUint d.length ++ d.flatMap putUint := by rw [hpre, editBytes]
    have hpre2 : [] ++ [n, s, g, l.length].flatMap putUint = pre := by rw [hpre]; simp
    obtain ⟨F, hF⟩ : ∃ F, F = putFrame 7 (editBytes ⟨n, s, g, l, d⟩) := ⟨_, rfl⟩
    rw [← hF] at HPF ⊢
    have HB := Lib.hid hbytes
    have HP2 := Lib.hid hpre2
    have HALL := Lib.hid hall
    have hn4 : ∀ m ∈ [n, s, g, l.length], m < M64 := by
      simp only [List.mem_cons, List.not_mem_nil, or_false]
      rintro m (rfl | rfl | rfl | rfl)
      · exact h1
      · exact h2
      · exact h3
      · unfold M64; omega
    have HN4 := Lib.hid hn4
    have H5 := Lib.hid h5
    clear hmay he hF hbytes hpre2 hpre hall h4 h5 hr hn4 h1 h2 h3
    go_enter Try.func18, Try.ntmps18
    go_wp2_with fail
    (obtain ⟨w0, hw0⟩ : ∃ w0, w0 = World.alloc w (.cells #[.int .u64 n, .int .u64 s, .int .u64 g, .slice A l.length c, .slice A' d.length c'] 35) := ⟨_, rfl⟩); (have hbox_w0 : Box w0 (w).heap.size 35 #[.int .u64 n, .int .u64 s, .int .u64 g, .slice A l.length c, .slice A' d.length c'] := by rw [hw0]; exact Box.new _ _ _); (have hE_w0 : Ext w w0 := by rw [hw0]; exact Ext.al _ _); (have hz_w0 : (w0).heap.size = (w).heap.size + 1 := by rw [hw0]; simp); rw [← hw0]; clear hw0
    refine (HM.out _ (HR.out _ (by (repeat (first | exact Below.refl _ _ | refine Ext.trans' ?_ (Ext.al _ _) | refine Ext.trans' ?_ (Ext.dr _) | refine Ext.trans' ?_ (by assumption)))))).mono ?_
    rintro e w1 ⟨rfl, hb1⟩
    have x0 := (hbox_w0.ext hb1).cell 0
    have x1 := (hbox_w0.ext hb1).cell 1
    have x2 := (hbox_w0.ext hb1).cell 2
    have x3 := (hbox_w0.ext hb1).cell 3
    have x4 := (hbox_w0.ext hb1).cell 4
    simp at x0 x1 x2 x3 x4
    have hz1 : w.heap.size < w1.heap.size := by have := hb1.size; omega
    go_wp2_with fail
    obtain ⟨B, hBdef⟩ : ∃ B, w1.heap.size = B := ⟨_, rfl⟩
    have hB1 := Bld.new w1
    rw [hBdef] at hB1 hz1
    have hbx := Box.new_at (w1.alloc (.cells #[.pointer none, .slice none 0 0] 77)) 22 #[.int .u64 n, .int .u64 s, .int .u64 g, .int .u64 l.length] (B + 1) (by rw [← hBdef]; simp)
    rw [hBdef]
    refine (encode1_any [n, s, g, l.length] (by simp) HN4.out (some ⟨B + 1, 0, none⟩) 4 B B [] _ (hB1.alloc _) (by simp; omega) (by simp) (fun w' hb ho => Row.of_box (ho _ _ _ (by decide) (by decide) hbx) rfl rfl)).mono ?_
    rintro e w2 ⟨rfl, hB2, hb2, -⟩
    rw [HP2.out] at hB2
    have hE2 : Below B w1 w2 := Below.trans (by rw [← hBdef]; (repeat (first | exact Below.refl _ _ | refine Ext.trans' ?_ (Ext.al _ _) | refine Ext.trans' ?_ (Ext.dr _) | refine Ext.trans' ?_ (by assumption)))) hb2
    have hW2 : Ext w0 w2 := hb1.trans (hE2.mono (by omega))
    have x3 := (hbox_w0.ext hW2).cell 3
    simp at x3
    have hz2 : B < w2.heap.size := by have := hb2.size; simp [hBdef] at this; omega
    clear hb2 hbx x0 x1 x2 x4 hB1
    go_wp2_with fail
    go_loopw [28] (fun i wr => ∃ k : Nat, k ≤ l.length ∧ i = .int .i64 k ∧ Bld wr B B (pre ++ (l.take k).flatMap tableBytes) ∧ Below B w1 wr ∧ B < wr.heap.size) (fun i _ => l.length - (intOf i).toNat)
    · exact ⟨0, by simp, rfl, by simpa using hB2, hE2, hz2⟩
    · clear hB2 hE2 hW2 x3 hz2
      obtain ⟨k, hk, rfl, hB, hE, hz⟩ := hrel
      have hWr : Ext w0 wr := hb1.trans (hE.mono (by omega))
      by_cases hlt : k < l.length
      · obtain ⟨t, ht⟩ : ∃ t, l[k]? = some t := ⟨l[k], List.getElem?_eq_getElem hlt⟩
        obtain ⟨b, off, rfl, -, hbw, hc⟩ := (HR.out _ (hE_w0.trans' hWr)).add.elem Table.cells_len rfl ht
        have hc0 := hc 0 _ rfl
        have hc1 := hc 1 _ rfl
        have hc2 := hc 2 _ rfl
        have hc3 := hc 3 _ rfl
        have hc4 := hc 4 _ rfl
        have hc5 := hc 5 _ rfl
        rw [Nat.add_zero] at hc0
        obtain ⟨tn, lv, sz, ct, ta, tb, rfl, htm⟩ := Table.may_nat (List.all_eq_true.1 HALL.out t (List.mem_of_getElem? ht))
        dsimp only [Table.cells] at hc0 hc1 hc2 hc3 hc4 hc5
        have HS : Hid ((pre ++ (l.take k).flatMap tableBytes) ++ tableBytes ⟨tn, lv, sz, ct, ta, tb⟩ = pre ++ (l.take (k + 1)).flatMap tableBytes) := by
          unfold Hid
          rw [List.take_add_one, ht]
          simp
        have hL : (pre ++ (l.take k).flatMap tableBytes).length ≤ 400000 := by
          have h1 := hlen
          rw [HB.out] at h1
          have h2 := take_flat_len tableBytes l k
          simp only [List.length_append] at h1 ⊢
          omega
        have HTM := Lib.hid htm
        obtain ⟨m1, m2⟩ := htm.num
        have m3 := htm.lv
        obtain ⟨m4, m5⟩ := htm.sz
        obtain ⟨m6, m7⟩ := htm.ct
        have m8 := htm.a
        have m9 := htm.b
        have hn4 : ∀ m ∈ [tn, lv, sz, ct], m < M64 := by
          simp only [List.mem_cons, List.not_mem_nil, or_false]
          unfold M64
          rintro m (rfl | rfl | rfl | rfl) <;> omega
        have HN := Lib.hid hn4
        have htl : (tableBytes ⟨tn, lv, sz, ct, ta, tb⟩).length ≤ 300 := tableBytes_len (List.all_eq_true.1 HALL.out _ (List.mem_of_getElem? ht))
        obtain ⟨acc, hacc⟩ : ∃ acc, acc = pre ++ (l.take k).flatMap tableBytes := ⟨_, rfl⟩
        rw [← hacc] at HS hL hB
        clear hc ht hn4 hacc htm
        go_wp2_with fail
        have hbt := Box.new wr 53 #[.int .u64 tn, .int .i64 lv, .int .i64 sz, .int .i64 ct, str ta, str tb]
        have hbx := Box.new_at (wr.alloc (.cells #[.int .u64 tn, .int .i64 lv, .int .i64 sz, .int .i64 ct, str ta, str tb] 53)) 22 #[.int .u64 tn, .int .u64 lv, .int .u64 sz, .int .u64 ct] (wr.heap.size + 1) (by simp)
        refine (encode1_any [tn, lv, sz, ct] (by simp) HN.out (some ⟨wr.heap.size + 1, 0, none⟩) 4 B B acc _ ((hB.alloc _).alloc _) (by simp; omega) (by omega) (fun w' hb ho => Row.of_box (ho _ _ _ (by decide) (by decide) hbx) rfl rfl)).mono ?_
        rintro e w3 ⟨rfl, hB3, hb3, ho3⟩
        have hbt3 := ho3 _ _ _ (by decide) (by decide) (hbt.alloc (.cells #[.int .u64 tn, .int .u64 lv, .int .u64 sz, .int .u64 ct] 22))
        have hz3 : wr.heap.size < w3.heap.size := by have := hb3.size; simp at this; omega
        have hE3 : Below B w1 w3 := (hE.trans (Below.mono (by (repeat (first | exact Below.refl _ _ | refine Ext.trans' ?_ (Ext.al _ _) | refine Ext.trans' ?_ (Ext.dr _) | refine Ext.trans' ?_ (by assumption)))) (by omega : B ≤ wr.heap.size))).trans hb3
        have y4 := hbt3.cell 4
        have y5 := hbt3.cell 5
        simp at y4 y5
        clear hB hbt hbx hb3 ho3 hc0 hc1 hc2 hc3 hc4 hc5
        go_wp2_with fail
        have hla := putText_length (l := ta) (by omega)
        have hlb := putText_length (l := tb) (by omega)
        have hln := numbers_len [tn, lv, sz, ct] HN.out
        simp only [List.length_cons, List.length_nil] at hln
        refine wp_region_sch (RS ((· = wr.heap.size))) 7 [(0, true), (1, true), (3, true), (4, true), (2, false), (5, false), (6, true), (7, false)] (by kernel_rfl) (by kernel_rfl) RS.refl RS.trans (fun _ _ d _ _ h => by cases d <;> exact h) ?_
        refine wpSch_q ?_ rfl rfl (fun w' hR => ?_) ?_
        rotate_left
        · (go_simp; first | rfl | rw [if_neg (by simp; omega)] | rw [if_neg (by omega)])
        (try simp only [Act.put, List.setIfInBounds_toArray, List.set_cons_zero, List.set_cons_succ])
        refine wpSch_q ?_ rfl rfl (fun w' hR => ?_) ?_
        rotate_left
        · (obtain ⟨hRs, hRc⟩ := hR; (try have hRd := fun o => hRc _ o rfl (by first | (simp; done) | (simp; omega) | omega)); (try have hRe := fun o => hRc _ o (Or.inl rfl) (by first | (simp; done) | (simp; omega) | omega)); (try have hRf := fun o => hRc _ o (Or.inr rfl) (by first | (simp; done) | (simp; omega) | omega)); (try have hRg := fun o => hRc _ o (Or.inr (Or.inl rfl)) (by first | (simp; done) | (simp; omega) | omega)); (try have hRh := fun o => hRc _ o (Or.inr (Or.inr rfl)) (by first | (simp; done) | (simp; omega) | omega)); go_simp; first | rfl | rw [if_neg (by simp; omega)] | rw [if_neg (by omega)])
        (try simp only [Act.put, List.setIfInBounds_toArray, List.set_cons_zero, List.set_cons_succ])
        refine wpSch_q ?_ rfl rfl (fun w' hR => ?_) ?_
        rotate_left
        · (go_simp; first | rfl | rw [if_neg (by simp; omega)] | rw [if_neg (by omega)])
        (try simp only [Act.put, List.setIfInBounds_toArray, List.set_cons_zero, List.set_cons_succ])
        refine wpSch_q ?_ rfl rfl (fun w' hR => ?_) ?_
        rotate_left
        · (obtain ⟨hRs, hRc⟩ := hR; (try have hRd := fun o => hRc _ o rfl (by first | (simp; done) | (simp; omega) | omega)); (try have hRe := fun o => hRc _ o (Or.inl rfl) (by first | (simp; done) | (simp; omega) | omega)); (try have hRf := fun o => hRc _ o (Or.inr rfl) (by first | (simp; done) | (simp; omega) | omega)); (try have hRg := fun o => hRc _ o (Or.inr (Or.inl rfl)) (by first | (simp; done) | (simp; omega) | omega)); (try have hRh := fun o => hRc _ o (Or.inr (Or.inr rfl)) (by first | (simp; done) | (simp; omega) | omega)); go_simp; first | rfl | rw [if_neg (by simp; omega)] | rw [if_neg (by omega)])
        (try simp only [Act.put, List.setIfInBounds_toArray, List.set_cons_zero, List.set_cons_succ])
        refine wpSch_e rfl rfl (fun K hK => ?_)
        go_simp
        refine (putText_any _ (by omega) _).mono ?_
        rintro e wx ⟨rfl, hbx⟩
        refine hK _ _ (fun _ => RS.ext hbx) ?_
        clear hK K
        (try simp only [Act.put, List.setIfInBounds_toArray, List.set_cons_zero, List.set_cons_succ])
        refine wpSch_e rfl rfl (fun K hK => ?_)
        go_simp
        refine (putText_any _ (by omega) _).mono ?_
        rintro e wx2 ⟨rfl, hbx2⟩
        refine hK _ _ (fun _ => RS.ext hbx2) ?_
        clear hK K
        (try simp only [Act.put, List.setIfInBounds_toArray, List.set_cons_zero, List.set_cons_succ])
        refine wpSch_q ?_ rfl rfl (fun w' hR => ?_) ?_
        rotate_left
        · (go_simp; first | rfl | rw [if_neg (by simp; omega)] | rw [if_neg (by omega)])
        (try simp only [Act.put, List.setIfInBounds_toArray, List.set_cons_zero, List.set_cons_succ])
        refine wpSch_e rfl rfl (fun K hK => ?_)
        go_simp
        refine (writeString_any B B _ _ _ (hB3.ext (by (repeat (first | exact Below.refl _ _ | refine Ext.trans' ?_ (Ext.al _ _) | refine Ext.trans' ?_ (Ext.dr _) | refine Ext.trans' ?_ (by assumption))))) (by simp only [List.length_append]; omega) (by have := hbx.size; have := hbx2.size; simp at *; omega)).mono ?_
        rintro e wy ⟨rfl, hBy, hby, hoy⟩
        refine hK _ _ (fun _ => RS.box hby.size (hbt3.ext (by (repeat (first | exact Below.refl _ _ | refine Ext.trans' ?_ (Ext.al _ _) | refine Ext.trans' ?_ (Ext.dr _) | refine Ext.trans' ?_ (by assumption))))) (hoy _ _ _ (by decide) (by decide) (hbt3.ext (by (repeat (first | exact Below.refl _ _ | refine Ext.trans' ?_ (Ext.al _ _) | refine Ext.trans' ?_ (Ext.dr _) | refine Ext.trans' ?_ (by assumption))))))) ?_
        clear hK K
        (try simp only [Act.put, List.setIfInBounds_toArray, List.set_cons_zero, List.set_cons_succ])
        refine wpSch_nil ?_
        have hzy : B < wy.heap.size := by have := hbx.size; have := hbx2.size; have := hby.size; simp at *; omega
        go_wp2
        exact ⟨⟨k + 1, by omega, by simp, by rw [← HS.out]; simpa [tableBytes, ByteArray.mk_append_mk] using hBy, (hE3.trans (Below.mono (by (repeat (first | exact Below.refl _ _ | refine Ext.trans' ?_ (Ext.al _ _) | refine Ext.trans' ?_ (Ext.dr _) | refine Ext.trans' ?_ (by assumption))) : Ext w3 wx2) (by omega))).trans hby, hzy⟩, by simp [intOf]; omega⟩
      · rw [List.take_of_length_le (by omega)] at hB
        have x4 := (hbox_w0.ext hWr).cell 4
        simp at x4
        clear x3
        have hd64 : ∀ m ∈ [d.length], m < M64 := by
          simp only [List.mem_cons, List.not_mem_nil, or_false]
          unfold M64
          rintro m rfl
          omega
        have HD := Lib.hid hd64
        have hlb := hlen
        rw [HB.out] at hlb
        simp only [List.length_append] at hlb
        clear hd64
        go_wp2_with fail
        have hbx := Box.new wr 22 #[.int .u64 d.length]
        refine (encode1_any [d.length] (by simp) HD.out (some ⟨wr.heap.size, 0, none⟩) 1 B B _ _ (hB.alloc _) (by simp; omega) (by simp only [List.length_append]; omega) (fun w' hb ho => Row.of_box (ho _ _ _ (by decide) (by decide) hbx) rfl rfl)).mono ?_
        rintro e w4 ⟨rfl, hB4, hb4, -⟩
        have hE4 : Below B w1 w4 := (hE.trans (Below.mono (by (repeat (first | exact Below.refl _ _ | refine Ext.trans' ?_ (Ext.al _ _) | refine Ext.trans' ?_ (Ext.dr _) | refine Ext.trans' ?_ (by assumption)))) (by omega : B ≤ wr.heap.size))).trans hb4
        have hW4 : Ext w0 w4 := hb1.trans (hE4.mono (by omega))
        have x4 := (hbox_w0.ext hW4).cell 4
        simp at x4
        have hz4 : B < w4.heap.size := by have := hb4.size; simp at this; omega
        clear hB hbx hb4
        go_wp2_with fail
        refine (encode1_any d (by omega) H5.out A' c' B B _ _ hB4 (by omega) (by simp only [List.length_append, List.flatMap_cons, List.flatMap_nil, List.length_nil]; omega) (fun w' hb _ => (HR.out w' (hE_w0.trans' (hb1.trans ((hE4.trans hb).mono (by omega))))).drop)).mono ?_
        rintro e w5 ⟨rfl, hB5, hb5, -⟩
        have hE5 := hE4.trans hb5
        have hz5 := hb5.size
        have heb : pre ++ l.flatMap tableBytes ++ [d.length].flatMap putUint ++ d.flatMap putUint = editBytes ⟨n, s, g, l, d⟩ := by rw [HB.out]; simp
        rw [heb] at hB5
        clear heb hB4 hb5 hE4 hW4
        go_wp2_with fail
        refine (builderString_any B B _ _ hB5 (by omega)).mono ?_
        rintro e w6 ⟨rfl, hb6⟩
        have hE6 := hE5.trans hb6
        clear hB5 hb6 hE5
        go_wp2_with fail
        refine (HPF.out _).mono ?_
        rintro e w7 ⟨rfl, hb7⟩
        go_wp2
        go_ret2
        exact ⟨rfl, (hE_w0.trans' (hb1.trans (hE6.mono (by omega)))).trans' hb7⟩
  · have he : encodeEdit e = ([], 1) := if_neg hmay
    rw [he]
    rw [Bool.not_eq_true _ |>.mp hmay] at HM
    obtain ⟨n, s, g, l, d⟩ := e
    dsimp only [Edit.val] at *
    clear hmay he h hr
    go_enter Try.func18, Try.ntmps18
    go_wp2_with fail
    (obtain ⟨w0, hw0⟩ : ∃ w0, w0 = World.alloc w (.cells #[.int .u64 n, .int .u64 s, .int .u64 g, .slice A l.length c, .slice A' d.length c'] 35) := ⟨_, rfl⟩); (have hbox_w0 : Box w0 (w).heap.size 35 #[.int .u64 n, .int .u64 s, .int .u64 g, .slice A l.length c, .slice A' d.length c'] := by rw [hw0]; exact Box.new _ _ _); (have hE_w0 : Ext w w0 := by rw [hw0]; exact Ext.al _ _); (have hz_w0 : (w0).heap.size = (w).heap.size + 1 := by rw [hw0]; simp); rw [← hw0]; clear hw0
    refine (HM.out _ (HR.out _ (by (repeat (first | exact Below.refl _ _ | refine Ext.trans' ?_ (Ext.al _ _) | refine Ext.trans' ?_ (Ext.dr _) | refine Ext.trans' ?_ (by assumption)))))).mono ?_
    rintro e w1 ⟨rfl, hb1⟩
    go_wp2
    go_ret2
    exact ⟨rfl, by (repeat (first | exact Below.refl _ _ | refine Ext.trans' ?_ (Ext.al _ _) | refine Ext.trans' ?_ (Ext.dr _) | refine Ext.trans' ?_ (by assumption)))⟩
end Go.Proofs.Yteplpgknnlehnaa
