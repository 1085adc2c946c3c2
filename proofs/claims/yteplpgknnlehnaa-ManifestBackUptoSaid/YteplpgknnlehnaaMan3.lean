/- Manifests (layer 10): may an edit be? The walks. -/
import Derived.Test.YteplpgknnlehnaaMan2
namespace Go.Proofs.Yteplpgknnlehnaa
set_option linter.unusedSimpArgs false
set_option linter.unusedVariables false
open Go.RowKit

set_option maxRecDepth 100000 in
set_option maxHeartbeats 800000 in
theorem editMay_any (e : Edit) (h : e.Ok) (A A' : Option Addr) (c c' : Nat) (w : World) (hr : EditAt w w.heap.size e A A') :
    Calls Try.prog 44 #[e.val A A' c c'] w fun r w' => r = .returned (.bool e.may) ∧ Ext w w' := by
  obtain ⟨h1, h2, h3, h4, h5, h6, h7⟩ := h
  have H1 := Lib.hid (fun w hr => containsTables_any e.add (by omega) h4 A c w hr)
  have H2 := Lib.hid (fun w hr => containsDrops_any e.drop (by omega) h5 A' c' w hr)
  obtain ⟨n, s, g, l, d⟩ := e
  dsimp only [Edit.val] at *
  have HR := Lib.hid (fun w' hb => EditAt.ext (w' := w') hr hb)
  clear hr h4 h5
  unfold M64 at *
  have HM : Hid (∀ x : Bool, x = (!(decide (4611686018427387904 < (n : Int)) || decide (4611686018427387904 < (s : Int)) || decide (4611686018427387904 < (g : Int)) || decide (1000 < (l.length : Int)) || decide (1000 < (d.length : Int))) &&
    (l.all Table.may && d.all mayDrop)) → x = (⟨n, s, g, l, d⟩ : Edit).may) := fun x hx => hx
  go_enter Try.func44, Try.ntmps44
  go_wp2_with (first
    | (go_at_call 76; refine (H1.out _ (HR.out _ (by (repeat (first | exact Below.refl _ _ | refine Ext.trans' ?_ (Ext.al _ _) | refine Ext.trans' ?_ (Ext.dr _) | refine Ext.trans' ?_ (by assumption))))).add).mono ?_; rintro e w1 ⟨rfl, hb1⟩; obtain ⟨hc1, -⟩ := bcell hb1; have hz1 := hb1.size; simp at hz1)
    | (go_at_call 79; refine (H2.out _ (HR.out _ (by (repeat (first | exact Below.refl _ _ | refine Ext.trans' ?_ (Ext.al _ _) | refine Ext.trans' ?_ (Ext.dr _) | refine Ext.trans' ?_ (by assumption))))).drop).mono ?_; rintro e w2 ⟨rfl, hb2⟩))
  all_goals go_ret
  all_goals refine ⟨congrArg (fun b => Ending.returned (.bool b)) (HM.out _ ?_), by (repeat (first | exact Below.refl _ _ | refine Ext.trans' ?_ (Ext.al _ _) | refine Ext.trans' ?_ (Ext.dr _) | refine Ext.trans' ?_ (by assumption)))⟩
  all_goals (simp [*] <;> (intros; omega))

/-- the ways of a chain of tests: what is refused at once -/
theorem edit_refused {e : Edit} (h : (decide (4611686018427387904 < (e.next : Int)) || decide (4611686018427387904 < (e.seq : Int)) || decide (4611686018427387904 < (e.log : Int)) || decide (1000 < (e.add.length : Int)) || decide (1000 < (e.drop.length : Int))) = true) : e.may = false := by
  rw [Edit.may, h]; rfl

set_option maxRecDepth 100000 in
set_option maxHeartbeats 800000 in
theorem editMay_ref (e : Edit) (h : e.Ok) (A A' : Option Addr) (c c' : Nat) (w : World) (hr : EditAt w w.heap.size e A A') :
    Calls Try.prog 50 #[e.val A A' c c'] w fun r w' => r = .returned (.bool e.may) ∧ Ext w w' := by
  obtain ⟨h1, h2, h3, h4, h5, h6, h7⟩ := h
  obtain ⟨n, s, g, l, d⟩ := e
  dsimp only [Edit.val] at *
  have HR := Lib.hid (fun w' hb => EditAt.ext (w' := w') hr hb)
  have H4 := Lib.hid h4
  have H5 := Lib.hid h5
  clear hr h4 h5
  unfold M64 at *
  have HM : Hid (∀ x : Bool, x = (!(decide (4611686018427387904 < (n : Int)) || decide (4611686018427387904 < (s : Int)) || decide (4611686018427387904 < (g : Int)) || decide (1000 < (l.length : Int)) || decide (1000 < (d.length : Int))) &&
    (l.all Table.may && d.all mayDrop)) → x = (⟨n, s, g, l, d⟩ : Edit).may) := fun x hx => hx
  go_enter Try.func50, Try.ntmps50
  go_wp2
  iterate 5 (· (go_ret; refine ⟨congrArg (fun b => Ending.returned (.bool b)) (HM.out _ ?_), by (repeat (first | exact Below.refl _ _ | refine Ext.trans' ?_ (Ext.al _ _) | refine Ext.trans' ?_ (Ext.dr _) | refine Ext.trans' ?_ (by assumption)))⟩; (simp [*] <;> (intros; omega))))
  have HB : Hid ((decide (4611686018427387904 < (n : Int)) || decide (4611686018427387904 < (s : Int)) || decide (4611686018427387904 < (g : Int)) || decide (1000 < (l.length : Int)) || decide (1000 < (d.length : Int))) = false) := by
    unfold Hid; (first | (simp [*]; done) | (simp [*]; omega))
  (obtain ⟨w0, hw0⟩ : ∃ w0, w0 = World.alloc w (.cells #[.int .u64 n, .int .u64 s, .int .u64 g, .slice A l.length c, .slice A' d.length c'] 35) := ⟨_, rfl⟩); (have hbox_w0 : Box w0 (w).heap.size 35 #[.int .u64 n, .int .u64 s, .int .u64 g, .slice A l.length c, .slice A' d.length c'] := by rw [hw0]; exact Box.new _ _ _); (have hE_w0 : Ext w w0 := by rw [hw0]; exact Ext.al _ _); (have hz_w0 : (w0).heap.size = (w).heap.size + 1 := by rw [hw0]; simp); rw [← hw0]; clear hw0
  have hRl := fun w' hb => (HR.out w' (hE_w0.trans' hb)).add
  have hRd := fun w' hb => (HR.out w' (hE_w0.trans' hb)).drop
  dsimp only at hRl hRd
  have HRL := Lib.hid hRl
  have HRD := Lib.hid hRd
  clear hRl hRd HR
  go_loopw [3] (fun i wr => ∃ k : Nat, k ≤ l.length ∧ i = .int .i64 k ∧ Hid ((l.take k).all Table.may = true) ∧ Ext w0 wr) (fun i _ => l.length - (intOf i).toNat)
  · exact ⟨0, by simp, rfl, by simp [Hid], Below.refl _ _⟩
  · obtain ⟨k, hk, rfl, hall, hE⟩ := hrel
    have a3 := (hbox_w0.ext hE).cell 3
    simp at a3
    by_cases hlt : k < l.length
    · obtain ⟨t, ht⟩ : ∃ t, l[k]? = some t := ⟨l[k], List.getElem?_eq_getElem hlt⟩
      obtain ⟨b, off, rfl, -, hbw, hc⟩ := (HRL.out _ hE).elem Table.cells_len rfl ht
      have hc0 := hc 0 _ rfl
      have hc1 := hc 1 _ rfl
      have hc2 := hc 2 _ rfl
      have hc3 := hc 3 _ rfl
      have hc4 := hc 4 _ rfl
      have hc5 := hc 5 _ rfl
      rw [Nat.add_zero] at hc0
      have hm := mayTable_ref t (H4.out t (List.mem_of_getElem? ht))
      have HMA := Lib.hid (fun h => all_take_succ (p := Table.may) hall.out ht h)
      have HMF := Lib.hid (fun h => all_false (p := Table.may) ht h)
      cases hmay : t.may
      all_goals
        rw [hmay] at hm
        have HM' := Lib.hid hm
        have HMY := Lib.hid hmay
        clear hm hc hmay ht
        obtain ⟨n', lv, sz, ct, a, bb⟩ := t
        dsimp only [Table.cells] at *
        go_wp2_with (refine (HM'.out _).mono ?_; rintro e w1 ⟨rfl, hb⟩)
      · go_ret
        exact ⟨congrArg (fun b => Ending.returned (.bool b)) (HM.out _ (by rw [HMF.out HMY.out]; simp)), hE_w0.trans' (hE.trans' hb)⟩
      · exact ⟨⟨k + 1, by omega, by simp, HMA.out HMY.out, hE.trans' hb⟩, by simp [intOf]; omega⟩
    · have HL := Lib.hid (all_take_all hall.out (by omega))
      clear hall
      go_wp2
      go_loopw [5] (fun i wr => ∃ k : Nat, k ≤ d.length ∧ i = .int .i64 k ∧ Hid ((d.take k).all mayDrop = true) ∧ Ext w0 wr) (fun i _ => d.length - (intOf i).toNat)
      · exact ⟨0, by simp, rfl, by simp [Hid], hE⟩
      · clear a3 hE
        obtain ⟨k, hk, rfl, hall, hE⟩ := hrel
        have a4 := (hbox_w0.ext hE).cell 4
        simp at a4
        by_cases hlt : k < d.length
        · obtain ⟨t, ht⟩ : ∃ t, d[k]? = some t := ⟨d[k], List.getElem?_eq_getElem hlt⟩
          obtain ⟨b, off, rfl, -, hbw, hc⟩ := (HRD.out _ hE).elem u64C_len rfl ht
          have hc0 := hc 0 _ rfl
          rw [Nat.add_zero, Nat.mul_one] at hc0
          have ht64 := H5.out t (List.mem_of_getElem? ht)
          have HMA := Lib.hid (fun h => all_take_succ (p := mayDrop) hall.out ht h)
          have HMF := Lib.hid (fun h => all_false (p := mayDrop) ht h)
          have HD : Hid (mayDrop t = !(decide ((t : Int) < 1) || decide (4611686018427387904 < (t : Int)))) := rfl
          clear hc ht
          go_wp2
          · go_ret
            exact ⟨congrArg (fun b => Ending.returned (.bool b)) (HM.out _ (by rw [HMF.out (by rw [HD.out]; simp [*])]; simp)), hE_w0.trans' hE⟩
          · go_ret
            exact ⟨congrArg (fun b => Ending.returned (.bool b)) (HM.out _ (by rw [HMF.out (by rw [HD.out]; simp [*])]; simp)), hE_w0.trans' hE⟩
          · exact ⟨⟨k + 1, by omega, by simp, HMA.out (by rw [HD.out]; simp; omega), hE⟩, by simp [intOf]; omega⟩
        · go_wp2
          go_ret
          exact ⟨congrArg (fun b => Ending.returned (.bool b)) (HM.out _ (by rw [HB.out, HL.out, all_take_all hall.out (by omega)]; rfl)), hE_w0.trans' hE⟩
end Go.Proofs.Yteplpgknnlehnaa
