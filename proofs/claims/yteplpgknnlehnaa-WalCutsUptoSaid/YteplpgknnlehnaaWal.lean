/- Logs (layer 5): what may be written, and a batch's bytes. -/
import Derived.Test.YteplpgknnlehnaaFrame
import Derived.Test.YteplpgknnlehnaaBuilder
import Derived.Test.YteplpgknnlehnaaRegion
namespace Go.Proofs.Yteplpgknnlehnaa
set_option linter.unusedSimpArgs false
set_option linter.unusedVariables false
open Go.RowKit

structure Put where
  key : List UInt8
  val : List UInt8
  del : Bool
deriving DecidableEq
def Put.cells (p : Put) : List Value := [str p.key, str p.val, .bool p.del]
theorem Put.cells_len (p : Put) : p.cells.length = 3 := rfl
theorem Put.one (p : Put) : ∀ u ∈ p.cells, u.oneCell' = true := by simp [Put.cells, Value.oneCell']

/-- may a put be? -/
def Put.may (p : Put) : Bool := !p.key.isEmpty && decide (p.key.length ≤ 96) && decide (p.val.length ≤ 16384) && (!p.del || p.val.isEmpty)

set_option maxRecDepth 100000 in
set_option maxHeartbeats 800000 in
theorem may_any (p : Put) (w : World) (hk : p.key.length ≤ 1099511627776) (hv : p.val.length ≤ 1099511627776) :
    Calls Try.prog 37 #[.agg #[str p.key, str p.val, .bool p.del]] w fun e w' => e = .returned (.bool p.may) ∧ Ext w w' := by
  obtain ⟨k, v, d⟩ := p
  dsimp only at *
  go_enter Try.func37, Try.ntmps37
  go_wp2
  all_goals go_ret
  all_goals refine ⟨?_, by (repeat (first | exact Below.refl _ _ | refine Ext.trans' ?_ (Ext.al _ _) | refine Ext.trans' ?_ (Ext.dr _) | refine Ext.trans' ?_ (by assumption)))⟩
  all_goals simp [Put.may]
  all_goals grind [List.length_eq_zero_iff]
set_option maxRecDepth 100000 in
set_option maxHeartbeats 800000 in
theorem may_ref (p : Put) (w : World) (hk : p.key.length ≤ 1099511627776) (hv : p.val.length ≤ 1099511627776) :
    Calls Try.prog 41 #[.agg #[str p.key, str p.val, .bool p.del]] w fun e w' => e = .returned (.bool p.may) ∧ Ext w w' := by
  obtain ⟨k, v, d⟩ := p
  dsimp only at *
  go_enter Try.func41, Try.ntmps41
  go_wp2
  all_goals go_ret
  all_goals refine ⟨?_, by (repeat (first | exact Below.refl _ _ | refine Ext.trans' ?_ (Ext.al _ _) | refine Ext.trans' ?_ (Ext.dr _) | refine Ext.trans' ?_ (by assumption)))⟩
  all_goals simp [Put.may]
  all_goals grind [List.length_eq_zero_iff]
def putBytes (p : Put) : List UInt8 := if p.del then 1 :: putText p.key else 0 :: (putText p.key ++ putText p.val)
def loadBytes (seq : Nat) (l : List Put) : List UInt8 := putUint seq ++ putUint l.length ++ l.flatMap putBytes

theorem may_len {p : Put} (h : p.may = true) : p.key.length ≤ 96 ∧ p.val.length ≤ 16384 := by
  simp only [Put.may, Bool.and_eq_true, decide_eq_true_eq] at h
  exact ⟨h.1.1.2, h.1.2⟩
theorem putBytes_len {p : Put} (h : p.may = true) : (putBytes p).length ≤ 16501 := by
  obtain ⟨h1, h2⟩ := may_len h
  have a := putText_length (l := p.key) (by omega)
  have b := putText_length (l := p.val) (by omega)
  unfold putBytes
  split <;> simp <;> omega
theorem puts_len {l : List Put} (h : ∀ p ∈ l, p.may = true) : (l.flatMap putBytes).length ≤ 16501 * l.length := by
  induction l with
  | nil => simp
  | cons p l ih =>
    have h1 := putBytes_len (h p (by simp))
    have h2 := ih (fun q hq => h q (by simp [hq]))
    rw [List.flatMap_cons, List.length_append, List.length_cons, Nat.mul_add]
    omega
theorem load_len {seq : Nat} (hs : seq < M64) {l : List Put} (hl : l.length ≤ 256) (h : ∀ p ∈ l, p.may = true) : (loadBytes seq l).length ≤ 4224276 := by
  have a := putUint_ten hs
  have b := putUint_ten (n := l.length) (by unfold M64; omega)
  have c := puts_len h
  rw [loadBytes, List.length_append, List.length_append]
  omega

set_option maxRecDepth 100000 in
set_option maxHeartbeats 800000 in
theorem load_any (seq : Nat) (hs : seq < M64) (l : List Put) (hl : l.length ≤ 256) (hm : ∀ p ∈ l, p.may = true) (A : Option Addr) (c : Nat) (w : World) (hr : Row w 0 w.heap.size 3 A l.length (l.flatMap Put.cells)) :
    Calls Try.prog 38 #[.int .u64 seq, .slice A l.length c] w fun e w' => e = .returned (str (loadBytes seq l)) ∧ Ext w w' := by
  have hp1 := putUint_ten hs
  have hl64 : l.length < M64 := by unfold M64; omega
  have hp2 := putUint_ten hl64
  go_enter Try.func38, Try.ntmps38
  go_wp2_with fail
  refine (putUint_any seq hs _).mono ?_
  rintro e w1 ⟨rfl, hb1⟩
  have hB1 := (Bld.new w).ext hb1
  go_wp2_with fail
  refine (writeString_any w.heap.size w.heap.size [] _ _ hB1 (by simp; omega) (by have := hb1.size; simp at this; omega)).mono ?_
  rintro e w2 ⟨rfl, hB2, hb2, -⟩
  have hs2 := hB2.lt
  go_wp2_with fail
  refine (putUint_any l.length hl64 _).mono ?_
  rintro e w3 ⟨rfl, hb3⟩
  have hB3 := hB2.ext hb3
  go_wp2_with fail
  refine (writeString_any w.heap.size w.heap.size _ _ _ hB3 (by simp; omega) (by have := hb3.size; omega)).mono ?_
  rintro e w4 ⟨rfl, hB4, hb4, -⟩
  have hE4 : Ext w w4 := Below.trans (Ext.trans' (Below.trans (Ext.trans' (Ext.al w _) hb1) hb2) hb3) hb4
  rw [List.nil_append] at hB4
  clear hb1 hB1 hB2 hb2 hs2 hb3 hB3 hb4
  go_wp2_with fail
  go_loopw [18] (fun i wr => ∃ k : Nat, k ≤ l.length ∧ i = .int .i64 k ∧ Bld wr w.heap.size w.heap.size (putUint seq ++ putUint l.length ++ (l.take k).flatMap putBytes) ∧ Ext w wr) (fun i _ => l.length - (intOf i).toNat)
  · exact ⟨0, by simp, rfl, by simpa using hB4, hE4⟩
  · obtain ⟨k, hk, rfl, hB, hE⟩ := hrel
    by_cases hlt : k < l.length
    · obtain ⟨p, hp⟩ : ∃ p, l[k]? = some p := ⟨l[k], List.getElem?_eq_getElem hlt⟩
      obtain ⟨b, off, rfl, -, hbw, hc⟩ := (hr.below hE (Nat.le_refl _)).elem Put.cells_len rfl hp
      have hc0 := hc 0 _ rfl
      have hc1 := hc 1 _ rfl
      have hc2 := hc 2 _ rfl
      rw [Nat.add_zero] at hc0
      have hpm := hm p (List.mem_of_getElem? hp)
      obtain ⟨hpk, hpv⟩ := may_len hpm
      have hHP := Lib.hid hp
      clear hc hr hp
      obtain ⟨pk, pv, pd⟩ := p
      dsimp only at *
      have hl1 := putText_length (l := pk) (by omega)
      have hl2 := putText_length (l := pv) (by omega)
      have hL : (putUint seq ++ putUint l.length ++ (l.take k).flatMap putBytes).length ≤ 4300000 := by
        have h1 := puts_len (l := l.take k) (fun q hq => hm q (List.mem_of_mem_take hq))
        rw [List.length_take] at h1
        simp only [List.length_append]
        omega
      obtain ⟨acc, hacc⟩ : ∃ acc, acc = putUint seq ++ putUint l.length ++ (l.take k).flatMap putBytes := ⟨_, rfl⟩
      rw [← hacc] at hL hB
      have hZ := hE.size
      have hsnoc : acc ++ putBytes ⟨pk, pv, pd⟩ = putUint seq ++ putUint l.length ++ (l.take (k + 1)).flatMap putBytes := by
        rw [hacc, List.take_add_one, hHP.out]
        simp
      have HS := Lib.hid hsnoc
      clear hacc hsnoc hm
      cases pd
      · go_wp2_with fail
        have hbox := Box.new wr 68 #[str pk, str pv, .bool false]
        refine wp_region_sch (RS ((· = wr.heap.size))) 8 [(0, true), (1, true), (4, true), (5, true), (2, false), (3, true), (6, false), (7, true), (8, false)] (by kernel_rfl) (by kernel_rfl) RS.refl RS.trans (fun _ _ d _ _ h => by cases d <;> exact h) ?_
        refine wpSch_q ?_ rfl rfl (fun w' hR => ?_) ?_
        rotate_left
        · (go_simp; first | rfl | rw [if_neg (by simp; omega)] | rw [if_neg (by omega)])
        (try simp only [Act.put, List.setIfInBounds_toArray, List.set_cons_zero, List.set_cons_succ])
        refine wpSch_q ?_ rfl rfl (fun w' hR => ?_) ?_
        rotate_left
        · (obtain ⟨hRs, hRc⟩ := hR; (try have hRd := fun o => hRc _ o rfl (by first | (simp; done) | (simp; omega) | omega)); go_simp; first | rfl | rw [if_neg (by simp; omega)] | rw [if_neg (by omega)])
        (try simp only [Act.put, List.setIfInBounds_toArray, List.set_cons_zero, List.set_cons_succ])
        refine wpSch_q ?_ rfl rfl (fun w' hR => ?_) ?_
        rotate_left
        · (go_simp; first | rfl | rw [if_neg (by simp; omega)] | rw [if_neg (by omega)])
        (try simp only [Act.put, List.setIfInBounds_toArray, List.set_cons_zero, List.set_cons_succ])
        refine wpSch_q ?_ rfl rfl (fun w' hR => ?_) ?_
        rotate_left
        · (obtain ⟨hRs, hRc⟩ := hR; (try have hRd := fun o => hRc _ o rfl (by first | (simp; done) | (simp; omega) | omega)); go_simp; first | rfl | rw [if_neg (by simp; omega)] | rw [if_neg (by omega)])
        (try simp only [Act.put, List.setIfInBounds_toArray, List.set_cons_zero, List.set_cons_succ])
        refine wpSch_e rfl rfl (fun K hK => ?_)
        go_simp
        refine (putText_any _ (by omega) _).mono ?_
        rintro e wx ⟨rfl, hbx⟩
        refine hK _ _ (fun _ => RS.ext hbx) ?_
        clear hK K
        (try simp only [Act.put, List.setIfInBounds_toArray, List.set_cons_zero, List.set_cons_succ])
        refine wpSch_q ?_ rfl rfl (fun w' hR => ?_) ?_
        rotate_left
        · (go_simp; first | rfl | rw [if_neg (by simp; omega)] | rw [if_neg (by omega)])
        (try simp only [Act.put, List.setIfInBounds_toArray, List.set_cons_zero, List.set_cons_succ])
        refine wpSch_e rfl rfl (fun K hK => ?_)
        go_simp
        refine (putText_any _ (by omega) _).mono ?_
        rintro e wx2 ⟨rfl, hbx2⟩
        refine hK _ _ (fun _ => RS.ext hbx2) ?_
        clear hK K
        (try simp only [Act.put, List.setIfInBounds_toArray, List.set_cons_zero, List.set_cons_succ])
        refine wpSch_q ?_ rfl rfl (fun w' hR => ?_) ?_
        rotate_left
        · (go_simp; first | rfl | rw [if_neg (by simp; omega)] | rw [if_neg (by omega)])
        (try simp only [Act.put, List.setIfInBounds_toArray, List.set_cons_zero, List.set_cons_succ])
        refine wpSch_e rfl rfl (fun K hK => ?_)
        go_simp
        refine (writeString_any w.heap.size w.heap.size acc _ _ (hB.ext (by (repeat (first | exact Below.refl _ _ | refine Ext.trans' ?_ (Ext.al _ _) | refine Ext.trans' ?_ (Ext.dr _) | refine Ext.trans' ?_ (by assumption))))) (by simp; omega) (by have := hbx.size; have := hbx2.size; simp at *; omega)).mono ?_
        rintro e wy ⟨rfl, hBy, hby, hoy⟩
        refine hK _ _ (fun _ => RS.box hby.size (hbox.ext (by (repeat (first | exact Below.refl _ _ | refine Ext.trans' ?_ (Ext.al _ _) | refine Ext.trans' ?_ (Ext.dr _) | refine Ext.trans' ?_ (by assumption))))) (hoy _ _ _ (by decide) (by decide) (hbox.ext (by (repeat (first | exact Below.refl _ _ | refine Ext.trans' ?_ (Ext.al _ _) | refine Ext.trans' ?_ (Ext.dr _) | refine Ext.trans' ?_ (by assumption))))))) ?_
        clear hK K
        (try simp only [Act.put, List.setIfInBounds_toArray, List.set_cons_zero, List.set_cons_succ])
        refine wpSch_nil ?_
        go_wp2
        exact ⟨⟨k + 1, by omega, by simp, by rw [← HS.out]; simpa [putBytes, ByteArray.mk_append_mk] using hBy, Below.trans (by (repeat (first | exact Below.refl _ _ | refine Ext.trans' ?_ (Ext.al _ _) | refine Ext.trans' ?_ (Ext.dr _) | refine Ext.trans' ?_ (by assumption)))) hby⟩, by simp [intOf]; omega⟩
      · go_wp2_with fail
        refine (putText_any _ (by omega) _).mono ?_
        rintro e wx ⟨rfl, hbx⟩
        go_wp2_with fail
        refine (writeString_any w.heap.size w.heap.size acc _ _ (hB.ext (by (repeat (first | exact Below.refl _ _ | refine Ext.trans' ?_ (Ext.al _ _) | refine Ext.trans' ?_ (Ext.dr _) | refine Ext.trans' ?_ (by assumption))))) (by simp; omega) (by have := hbx.size; simp at *; omega)).mono ?_
        rintro e wy ⟨rfl, hBy, hby, -⟩
        go_wp2
        exact ⟨⟨k + 1, by omega, by simp, by rw [← HS.out]; simpa [putBytes, ByteArray.mk_append_mk] using hBy, Below.trans (by (repeat (first | exact Below.refl _ _ | refine Ext.trans' ?_ (Ext.al _ _) | refine Ext.trans' ?_ (Ext.dr _) | refine Ext.trans' ?_ (by assumption)))) hby⟩, by simp [intOf]; omega⟩
    · go_wp2_with fail
      refine (builderString_any w.heap.size w.heap.size _ _ hB hE.size).mono ?_
      rintro e wy ⟨rfl, hby⟩
      go_wp2
      go_ret
      obtain rfl : k = l.length := by omega
      exact ⟨by simp [loadBytes], Below.trans hE hby⟩
set_option maxRecDepth 100000 in
set_option maxHeartbeats 800000 in
theorem load_ref (seq : Nat) (hs : seq < M64) (l : List Put) (hl : l.length ≤ 256) (hm : ∀ p ∈ l, p.may = true) (A : Option Addr) (c : Nat) (w : World) (hr : Row w 0 w.heap.size 3 A l.length (l.flatMap Put.cells)) :
    Calls Try.prog 42 #[.int .u64 seq, .slice A l.length c] w fun e w' => e = .returned (str (loadBytes seq l)) ∧ Ext w w' := by
  have hp1 := putUint_ten hs
  have hl64 : l.length < M64 := by unfold M64; omega
  have hp2 := putUint_ten hl64
  go_enter Try.func42, Try.ntmps42
  go_wp2_with fail
  refine (putUint_ref seq hs _).mono ?_
  rintro e w1 ⟨rfl, hb1⟩
  go_wp2_with fail
  refine (putUint_ref l.length hl64 _).mono ?_
  rintro e w3 ⟨rfl, hb3⟩
  have hE4 : Ext w w3 := Ext.trans' hb1 hb3
  go_wp2_with fail
  go_loopw [5, 6] (fun s i wr => ∃ k : Nat, k ≤ l.length ∧ i = .int .i64 k ∧ s = str (putUint seq ++ putUint l.length ++ (l.take k).flatMap putBytes) ∧ Ext w wr) (fun _ i _ => l.length - (intOf i).toNat)
  · exact ⟨0, by simp, rfl, by simp [ByteArray.mk_append_mk], hE4⟩
  · obtain ⟨k, hk, rfl, rfl, hE⟩ := hrel
    by_cases hlt : k < l.length
    · obtain ⟨p, hp⟩ : ∃ p, l[k]? = some p := ⟨l[k], List.getElem?_eq_getElem hlt⟩
      obtain ⟨b, off, rfl, -, hbw, hc⟩ := (hr.below hE (Nat.le_refl _)).elem Put.cells_len rfl hp
      have hc0 := hc 0 _ rfl
      have hc1 := hc 1 _ rfl
      have hc2 := hc 2 _ rfl
      rw [Nat.add_zero] at hc0
      have hpm := hm p (List.mem_of_getElem? hp)
      obtain ⟨hpk, hpv⟩ := may_len hpm
      have hHP := Lib.hid hp
      clear hc hr hp
      obtain ⟨pk, pv, pd⟩ := p
      dsimp only at *
      have hl1 := putText_length (l := pk) (by omega)
      have hl2 := putText_length (l := pv) (by omega)
      have hL : (putUint seq ++ putUint l.length ++ (l.take k).flatMap putBytes).length ≤ 4300000 := by
        have h1 := puts_len (l := l.take k) (fun q hq => hm q (List.mem_of_mem_take hq))
        rw [List.length_take] at h1
        simp only [List.length_append]
        omega
      obtain ⟨acc, hacc⟩ : ∃ acc, acc = putUint seq ++ putUint l.length ++ (l.take k).flatMap putBytes := ⟨_, rfl⟩
      rw [← hacc] at hL ⊢
      have hbz : b < wr.heap.size := Nat.lt_of_lt_of_le hbw hE.size
      have hsnoc : acc ++ putBytes ⟨pk, pv, pd⟩ = putUint seq ++ putUint l.length ++ (l.take (k + 1)).flatMap putBytes := by
        rw [hacc, List.take_add_one, hHP.out]
        simp
      have HS := Lib.hid hsnoc
      clear hacc hsnoc hm
      cases pd
      · go_wp2_with fail
        refine (putText_ref _ (by omega) _).mono ?_
        rintro e wx ⟨rfl, hbx⟩
        obtain ⟨hcx, -⟩ := bcell hbx
        have hbz2 := Nat.lt_of_lt_of_le hbz hbx.size
        go_wp2_with fail
        refine (putText_ref _ (by omega) _).mono ?_
        rintro e wy ⟨rfl, hby⟩
        go_wp2
        exact ⟨⟨k + 1, by omega, by simp, by rw [← HS.out]; simp [putBytes, ByteArray.mk_append_mk], by (repeat (first | exact Below.refl _ _ | refine Ext.trans' ?_ (Ext.al _ _) | refine Ext.trans' ?_ (Ext.dr _) | refine Ext.trans' ?_ (by assumption)))⟩, by simp [intOf]; omega⟩
      · go_wp2_with fail
        refine (putText_ref _ (by omega) _).mono ?_
        rintro e wx ⟨rfl, hbx⟩
        obtain ⟨hcx, -⟩ := bcell hbx
        have hbz2 := Nat.lt_of_lt_of_le hbz hbx.size
        go_wp2
        exact ⟨⟨k + 1, by omega, by simp, by rw [← HS.out]; simp [putBytes, ByteArray.mk_append_mk], by (repeat (first | exact Below.refl _ _ | refine Ext.trans' ?_ (Ext.al _ _) | refine Ext.trans' ?_ (Ext.dr _) | refine Ext.trans' ?_ (by assumption)))⟩, by simp [intOf]; omega⟩
    · go_wp2
      go_ret
      obtain rfl : k = l.length := by omega
      exact ⟨by simp [loadBytes], hE⟩

def maxSeq : Nat := 1125899906842624
theorem maxSeq_lt : maxSeq < M64 := by unfold maxSeq M64; omega

/-- may puts be written at one time? (0: yes; 1: ErrArg) -/
def wcheck (l : List Put) : Int := if l.length ≤ 256 ∧ (∀ p ∈ l, p.may = true) ∧ (loadBytes maxSeq l).length ≤ 262144 then 0 else 1

/-- no put is longer than a number of 40 bits -/
def small (l : List Put) : Prop := ∀ p ∈ l, p.key.length ≤ 1099511627776 ∧ p.val.length ≤ 1099511627776

set_option maxRecDepth 100000 in
set_option maxHeartbeats 800000 in
theorem check_any (l : List Put) (hl : l.length ≤ 1099511627776) (hsm : small l) (A : Option Addr) (c : Nat) (w : World) (hr : Row w 0 w.heap.size 3 A l.length (l.flatMap Put.cells)) :
    Calls Try.prog 12 #[.slice A l.length c] w fun e w' => e = .returned (.int .i64 (wcheck l)) ∧ Ext w w' := by
  by_cases h256 : 256 < l.length
  · have e : wcheck l = 1 := by rw [wcheck, if_neg (by omega)]
    rw [e]
    go_enter Try.func12, Try.ntmps12
    go_wp2
    go_ret
    exact ⟨rfl, Below.refl _ _⟩
  go_enter Try.func12, Try.ntmps12
  go_wp2_with fail
  go_loopw [10] (fun i wr => ∃ k : Nat, k ≤ l.length ∧ i = .int .i64 k ∧ Hid (∀ p ∈ l.take k, p.may = true) ∧ Ext w wr) (fun i _ => l.length - (intOf i).toNat)
  · exact ⟨0, by simp, rfl, by simp [Hid], Below.refl _ _⟩
  · obtain ⟨k, hk, rfl, hall, hE⟩ := hrel
    by_cases hlt : k < l.length
    · obtain ⟨p, hp⟩ : ∃ p, l[k]? = some p := ⟨l[k], List.getElem?_eq_getElem hlt⟩
      obtain ⟨b, off, rfl, -, hbw, hc⟩ := (hr.below hE (Nat.le_refl _)).elem Put.cells_len rfl hp
      have hc0 := hc 0 _ rfl
      have hc1 := hc 1 _ rfl
      have hc2 := hc 2 _ rfl
      rw [Nat.add_zero] at hc0
      have hsp := hsm p (List.mem_of_getElem? hp)
      have hHP := Lib.hid hp
      clear hc hp
      have hmc := fun w => may_any p w hsp.1 hsp.2
      cases hpm : p.may
      · have e : wcheck l = 1 := by
          rw [wcheck, if_neg]
          rintro ⟨_, h, _⟩
          have := h p (List.mem_of_getElem? hHP.out)
          rw [hpm] at this
          cases this
        rw [hpm] at hmc
        have HM := Lib.hid hmc
        have HE := Lib.hid e
        clear hmc e hpm hsm hr
        go_wp2_with (go_at_call 37; refine (HM.out _).mono ?_; rintro e w1 ⟨rfl, hb1⟩)
        go_ret
        exact ⟨by rw [HE.out]; rfl, by (repeat (first | exact Below.refl _ _ | refine Ext.trans' ?_ (Ext.al _ _) | refine Ext.trans' ?_ (Ext.dr _) | refine Ext.trans' ?_ (by assumption)))⟩
      · rw [hpm] at hmc
        have HM := Lib.hid hmc
        have HPM := Lib.hid hpm
        clear hmc hpm hsm hr
        go_wp2_with (go_at_call 37; refine (HM.out _).mono ?_; rintro e w1 ⟨rfl, hb1⟩)
        refine ⟨⟨k + 1, by omega, by simp, ?_, by (repeat (first | exact Below.refl _ _ | refine Ext.trans' ?_ (Ext.al _ _) | refine Ext.trans' ?_ (Ext.dr _) | refine Ext.trans' ?_ (by assumption)))⟩, by simp [intOf]; omega⟩
        intro q hq
        rw [List.take_add_one, hHP.out] at hq
        rcases List.mem_append.1 hq with h | h
        · exact hall.out q h
        · obtain rfl : q = p := by simpa using h
          exact HPM.out
    · obtain rfl : k = l.length := by omega
      have hall' : ∀ p ∈ l, p.may = true := by have := hall.out; rwa [List.take_length] at this
      have hlen := load_len maxSeq_lt (by omega) hall'
      have hlc := fun w hr => load_any maxSeq maxSeq_lt l (by omega) hall' A c w hr
      have HL := Lib.hid hlc
      have HA := Lib.hid hall'
      have hr' := hr.below hE (Nat.le_refl _)
      have hr2 : Row wr 0 wr.heap.size 3 A l.length (l.flatMap Put.cells) := hr'.wide (Nat.le_refl _) hE.size
      clear hlc hall hall' hsm hr hr'
      by_cases hbig : 262144 < (loadBytes maxSeq l).length
      · have e : wcheck l = 1 := by rw [wcheck, if_neg (by omega)]
        have HE := Lib.hid e
        clear e
        go_wp2_with (go_at_call 38; refine (HL.out _ hr2).mono ?_; rintro e w1 ⟨rfl, hb1⟩)
        go_ret
        exact ⟨by rw [HE.out]; rfl, by (repeat (first | exact Below.refl _ _ | refine Ext.trans' ?_ (Ext.al _ _) | refine Ext.trans' ?_ (Ext.dr _) | refine Ext.trans' ?_ (by assumption)))⟩
      · have e : wcheck l = 0 := by rw [wcheck, if_pos ⟨by omega, HA.out, by omega⟩]
        have HE := Lib.hid e
        clear e
        go_wp2_with (go_at_call 38; refine (HL.out _ hr2).mono ?_; rintro e w1 ⟨rfl, hb1⟩)
        go_ret
        exact ⟨by rw [HE.out]; rfl, by (repeat (first | exact Below.refl _ _ | refine Ext.trans' ?_ (Ext.al _ _) | refine Ext.trans' ?_ (Ext.dr _) | refine Ext.trans' ?_ (by assumption)))⟩
set_option maxRecDepth 100000 in
set_option maxHeartbeats 800000 in
theorem check_ref (l : List Put) (hl : l.length ≤ 1099511627776) (hsm : small l) (A : Option Addr) (c : Nat) (w : World) (hr : Row w 0 w.heap.size 3 A l.length (l.flatMap Put.cells)) :
    Calls Try.prog 14 #[.slice A l.length c] w fun e w' => e = .returned (.int .i64 (wcheck l)) ∧ Ext w w' := by
  by_cases h256 : 256 < l.length
  · have e : wcheck l = 1 := by rw [wcheck, if_neg (by omega)]
    rw [e]
    go_enter Try.func14, Try.ntmps14
    go_wp2
    go_ret
    exact ⟨rfl, Below.refl _ _⟩
  go_enter Try.func14, Try.ntmps14
  go_wp2_with fail
  go_loopw [3] (fun i wr => ∃ k : Nat, k ≤ l.length ∧ i = .int .i64 k ∧ Hid (∀ p ∈ l.take k, p.may = true) ∧ Ext w wr) (fun i _ => l.length - (intOf i).toNat)
  · exact ⟨0, by simp, rfl, by simp [Hid], Below.refl _ _⟩
  · obtain ⟨k, hk, rfl, hall, hE⟩ := hrel
    by_cases hlt : k < l.length
    · obtain ⟨p, hp⟩ : ∃ p, l[k]? = some p := ⟨l[k], List.getElem?_eq_getElem hlt⟩
      obtain ⟨b, off, rfl, -, hbw, hc⟩ := (hr.below hE (Nat.le_refl _)).elem Put.cells_len rfl hp
      have hc0 := hc 0 _ rfl
      have hc1 := hc 1 _ rfl
      have hc2 := hc 2 _ rfl
      rw [Nat.add_zero] at hc0
      have hsp := hsm p (List.mem_of_getElem? hp)
      have hHP := Lib.hid hp
      clear hc hp
      have hmc := fun w => may_ref p w hsp.1 hsp.2
      cases hpm : p.may
      · have e : wcheck l = 1 := by
          rw [wcheck, if_neg]
          rintro ⟨_, h, _⟩
          have := h p (List.mem_of_getElem? hHP.out)
          rw [hpm] at this
          cases this
        rw [hpm] at hmc
        have HM := Lib.hid hmc
        have HE := Lib.hid e
        clear hmc e hpm hsm hr
        go_wp2_with (go_at_call 41; refine (HM.out _).mono ?_; rintro e w1 ⟨rfl, hb1⟩)
        go_ret
        exact ⟨by rw [HE.out]; rfl, by (repeat (first | exact Below.refl _ _ | refine Ext.trans' ?_ (Ext.al _ _) | refine Ext.trans' ?_ (Ext.dr _) | refine Ext.trans' ?_ (by assumption)))⟩
      · rw [hpm] at hmc
        have HM := Lib.hid hmc
        have HPM := Lib.hid hpm
        clear hmc hpm hsm hr
        go_wp2_with (go_at_call 41; refine (HM.out _).mono ?_; rintro e w1 ⟨rfl, hb1⟩)
        refine ⟨⟨k + 1, by omega, by simp, ?_, by (repeat (first | exact Below.refl _ _ | refine Ext.trans' ?_ (Ext.al _ _) | refine Ext.trans' ?_ (Ext.dr _) | refine Ext.trans' ?_ (by assumption)))⟩, by simp [intOf]; omega⟩
        intro q hq
        rw [List.take_add_one, hHP.out] at hq
        rcases List.mem_append.1 hq with h | h
        · exact hall.out q h
        · obtain rfl : q = p := by simpa using h
          exact HPM.out
    · obtain rfl : k = l.length := by omega
      have hall' : ∀ p ∈ l, p.may = true := by have := hall.out; rwa [List.take_length] at this
      have hlen := load_len maxSeq_lt (by omega) hall'
      have hlc := fun w hr => load_ref maxSeq maxSeq_lt l (by omega) hall' A c w hr
      have HL := Lib.hid hlc
      have HA := Lib.hid hall'
      have hr' := hr.below hE (Nat.le_refl _)
      have hr2 : Row wr 0 wr.heap.size 3 A l.length (l.flatMap Put.cells) := hr'.wide (Nat.le_refl _) hE.size
      clear hlc hall hall' hsm hr hr'
      by_cases hbig : 262144 < (loadBytes maxSeq l).length
      · have e : wcheck l = 1 := by rw [wcheck, if_neg (by omega)]
        have HE := Lib.hid e
        clear e
        go_wp2_with (go_at_call 42; refine (HL.out _ hr2).mono ?_; rintro e w1 ⟨rfl, hb1⟩)
        go_ret
        exact ⟨by rw [HE.out]; rfl, by (repeat (first | exact Below.refl _ _ | refine Ext.trans' ?_ (Ext.al _ _) | refine Ext.trans' ?_ (Ext.dr _) | refine Ext.trans' ?_ (by assumption)))⟩
      · have e : wcheck l = 0 := by rw [wcheck, if_pos ⟨by omega, HA.out, by omega⟩]
        have HE := Lib.hid e
        clear e
        go_wp2_with (go_at_call 42; refine (HL.out _ hr2).mono ?_; rintro e w1 ⟨rfl, hb1⟩)
        go_ret
        exact ⟨by rw [HE.out]; rfl, by (repeat (first | exact Below.refl _ _ | refine Ext.trans' ?_ (Ext.al _ _) | refine Ext.trans' ?_ (Ext.dr _) | refine Ext.trans' ?_ (by assumption)))⟩
end Go.Proofs.Yteplpgknnlehnaa
