/- Logs (layer 5): lists of puts held against each other; the walk of the statement WalEncodes. -/
import Derived.Test.YteplpgknnlehnaaWal2
import Derived.Test.YteplpgknnlehnaaBase2
namespace Go.Proofs.Yteplpgknnlehnaa
set_option linter.unusedSimpArgs false
set_option linter.unusedVariables false
open Go.RowKit

theorem put_fields : (Try.prog.fieldsOf 68).toList = [⟨"Key", 9, 0, false, "", "", 0⟩, ⟨"Value", 9, 1, false, "", "", 16⟩, ⟨"Del", 4, 2, false, "", "", 32⟩] := by kernel_rfl

theorem put_neq (w : World) (k1 v1 k2 v2 : List UInt8) (d1 d2 : Bool) : (binOp .neq 68 (.agg #[str k1, str v1, .bool d1]) (.agg #[str k2, str v2, .bool d2])).run Try.prog w =
    .ok (.bool (!decide ((⟨k1, v1, d1⟩ : Put) = ⟨k2, v2, d2⟩))) w := by
  have ht : Try.prog.underlying 68 = some (.struct (Try.prog.fieldsOf 68)) := by kernel_rfl
  have hp : Try.prog.stoodInHeld 68 = false := by kernel_rfl
  rw [run_neq_struct, run_equalIn_struct w 9999 _ _ _ ht hp, put_fields]
  simp [go_sem, Op.eqFields]
  (repeat' split) <;> simp_all
theorem take_all_eq {α : Type} {a b : List α} {k : Nat} (h : a.take k = b.take k) (ha : a.length ≤ k) (hb : b.length ≤ k) : a = b := by
  rwa [List.take_of_length_le ha, List.take_of_length_le hb] at h

set_option maxRecDepth 100000 in
set_option maxHeartbeats 800000 in
theorem samePuts_any (l1 l2 : List Put) (h1 : l1.length ≤ 1099511627776) (h2 : l2.length ≤ 1099511627776) (A1 A2 : Option Addr) (c1 c2 : Nat) (w : World)
    (hr1 : Row w 0 w.heap.size 3 A1 l1.length (l1.flatMap Put.cells)) (hr2 : Row w 0 w.heap.size 3 A2 l2.length (l2.flatMap Put.cells)) :
    Calls Try.prog 16 #[.slice A1 l1.length c1, .slice A2 l2.length c2] w fun e w' => e = .returned (.bool (decide (l1 = l2))) ∧ Ext w w' := by
  by_cases hlen : l1.length = l2.length
  · have hb : ((l1.length : Int) != (l2.length : Int)) = false := by simp [hlen]
    go_enter Try.func16, Try.ntmps16
    go_wp2
    go_loopw [5] (fun i wr => ∃ k : Nat, k ≤ l1.length ∧ i = .int .i64 k ∧ Hid (l1.take k = l2.take k) ∧ Ext w wr) (fun i _ => l1.length - (intOf i).toNat)
    · exact ⟨0, by simp, rfl, by simp [Hid], Below.refl _ _⟩
    · obtain ⟨k, hk, rfl, hall, hE⟩ := hrel
      by_cases hlt : k < l1.length
      · obtain ⟨p, hp⟩ : ∃ p, l1[k]? = some p := ⟨l1[k], List.getElem?_eq_getElem hlt⟩
        obtain ⟨q, hq⟩ : ∃ q, l2[k]? = some q := ⟨l2[k]'(by omega), List.getElem?_eq_getElem (by omega)⟩
        obtain ⟨b1, off1, rfl, -, hbw1, hc1⟩ := (hr1.below hE (Nat.le_refl _)).elem Put.cells_len rfl hp
        obtain ⟨b2, off2, rfl, -, hbw2, hc2⟩ := (hr2.below hE (Nat.le_refl _)).elem Put.cells_len rfl hq
        have a0 := hc1 0 _ rfl
        have a1 := hc1 1 _ rfl
        have a2 := hc1 2 _ rfl
        have e0 := hc2 0 _ rfl
        have e1 := hc2 1 _ rfl
        have e2 := hc2 2 _ rfl
        rw [Nat.add_zero] at a0 e0
        have hlt2 : k < l2.length := by omega
        have HP := Lib.hid hp
        have HQ := Lib.hid hq
        have HL := Lib.hid hlen
        clear hc1 hc2 hr1 hr2 hp hq hlen
        obtain ⟨k1, v1, d1⟩ := p
        obtain ⟨k2, v2, d2⟩ := q
        have hne := fun w => put_neq w k1 v1 k2 v2 d1 d2
        by_cases heq : (⟨k1, v1, d1⟩ : Put) = ⟨k2, v2, d2⟩
        · rw [decide_eq_true heq] at hne
          have HEQ := Lib.hid heq
          clear heq
          go_wp2
          go_quiet (fail)
          go_wp2
          refine ⟨⟨k + 1, by omega, by simp, ?_, by have := hE; exact Below.trans hE (below_drewN' _ _)⟩, by simp [intOf]; omega⟩
          unfold Hid
          rw [List.take_add_one, List.take_add_one, hall.out, HP.out, HQ.out, HEQ.out]
        · rw [decide_eq_false heq] at hne
          have HEQ := Lib.hid heq
          clear heq
          go_wp2
          go_quiet (fail)
          go_wp2
          go_ret
          have hd : decide (l1 = l2) = false := by
            apply decide_eq_false
            rintro rfl
            have := HP.out.symm.trans HQ.out
            exact HEQ.out (Option.some.inj this)
          exact ⟨by rw [hd]; rfl, Below.trans hE (below_drewN' _ _)⟩
      · go_wp2
        go_ret
        have hd : decide (l1 = l2) = true := decide_eq_true (take_all_eq hall.out (by omega) (by omega))
        exact ⟨by rw [hd]; rfl, hE⟩
  · have hb : ((l1.length : Int) != (l2.length : Int)) = true := by simp; omega
    have hd : decide (l1 = l2) = false := by
      apply decide_eq_false
      rintro rfl
      exact hlen rfl
    rw [hd]
    go_enter Try.func16, Try.ntmps16
    go_wp2
    go_ret
    exact ⟨rfl, Below.refl _ _⟩
theorem Try.putsOf : ElemOf Try.prog 23 68 3 40 := elemOf_mk Try.underlying23 (z := .agg #[str [], str [], .bool false]) (by kernel_rfl) rfl (by decide)

set_option maxRecDepth 100000 in
set_option maxHeartbeats 800000 in
theorem walEncodes_walk (b : Batch) (hs : b.seq < M64) (hl : b.puts.length ≤ 1048576) (hsm : small b.puts) (A : Option Addr) (c : Nat) (w : World) (hr : Row w 0 w.heap.size 3 A b.puts.length (b.puts.flatMap Put.cells)) :
    Calls Try.prog 3 #[.agg #[.int .u64 b.seq, .slice A b.puts.length c]] w fun e w' => e = .returned (.bool true) ∧ Ext w w' := by
  have hchk := fun w hr => check_any b.puts (by omega) hsm A c w hr
  have hchkR := fun A c w hr => check_ref b.puts (by omega) hsm A c w hr
  have henc := fun w hr => encode_any b hs (by omega) hsm A c w hr
  have hencR := fun A c w hr => encode_ref b hs (by omega) hsm A c w hr
  have hone : ∀ u ∈ b.puts.flatMap Put.cells, u.oneCell' = true := fun u hu => by
    obtain ⟨p, _, hp⟩ := List.mem_flatMap.1 hu
    exact p.one u hp
  obtain ⟨seq, l⟩ := b
  dsimp only at *
  have HC := Lib.hid hchk
  have HCR := Lib.hid hchkR
  have HE := Lib.hid henc
  have HER := Lib.hid hencR
  have h1' : Hid (seq < M64) := hs
  have HO := Lib.hid hone
  clear hchk hchkR henc hencR hsm hs hone
  go_enter Try.func3, Try.ntmps3
  go_wp2_with (at_make; refine wpList_make_all Try.putsOf rfl _ _ rfl l.length _ _ rfl rfl rfl rfl (by omega) (by omega) ?_)
  intro w1 cur hcur hcs hb1
  have hE1 : Ext w w1 := by (repeat (first | exact Below.refl _ _ | refine Ext.trans' ?_ (Ext.al _ _) | refine Ext.trans' ?_ (Ext.dr _) | refine Ext.trans' ?_ (by assumption)))
  have hbox1 := (Box.new w 25 #[.int .u64 seq, .slice A l.length c]).ext hb1
  obtain ⟨hc1, -⟩ := bcell hb1
  have hz1 := hb1.size
  simp at hz1
  have hr1 := hr.below hE1 (Nat.le_refl _)
  go_wp2_with (with_reducible refine wpList_copy_all Try.putsOf rfl (.tmp 15) (.tmp 17) rfl (w.heap.size + 1) l.length l.length c A rfl rfl hcur hcs hr1 HO.out ?_)
  intro w2 hblk hg2
  have hown := Own.of_block (w := w2) (base := w.heap.size + 1) hblk (Nat.le_refl _) Put.cells_len (by unfold maxLen; omega)
  have hbox2 := hbox1.grown hg2 (by simp)
  have hE2 : Ext w w2 := hE1.grown hg2 hE1.size (by intro k e; cases e; omega)
  have hz2 := hg2.size
  clear hc1 hz1 hbox1 hcur hcs hg2 hr1 hb1
  have c0 := hbox2.cell 0
  have c1 := hbox2.cell 1
  simp at c0 c1
  go_wp2_with fail
  -- wal.Check(b.Puts)
  have rA : ∀ w', Ext w2 w' → Row w' 0 w'.heap.size 3 A l.length (l.flatMap Put.cells) := fun w' h => (hr.below (hE2.trans' h) (Nat.le_refl _)).wide (Nat.le_refl _) (hE2.trans' h).size
  have rH : ∀ w', Ext w2 w' → Row w' 0 w'.heap.size 3 (some ⟨w.heap.size + 1, 0, none⟩) l.length (l.flatMap Put.cells) := fun w' h => (hown.ext h).row.wide (Nat.zero_le _) (Nat.le_refl _)
  clear hr
  refine (HC.out _ (rA _ (Below.refl _ _))).mono ?_
  rintro e w3 ⟨rfl, hb3⟩
  have c03 := (hbox2.ext hb3).cell 0
  have c13 := (hbox2.ext hb3).cell 1
  simp at c03 c13
  have hW3 : Ext w2 w3 := hb3
  go_wp2_with fail
  -- wal.Encode(b)
  refine (HE.out _ (rA _ hW3)).mono ?_
  rintro e w4 ⟨rfl, hb4⟩
  have hW4 : Ext w2 w4 := hW3.trans' hb4
  have c04 := (hbox2.ext hW4).cell 0
  have c14 := (hbox2.ext hW4).cell 1
  simp at c04 c14
  go_wp2_with fail
  -- tapestryref05.Check(held)
  refine (HCR.out _ _ _ (rH _ hW4)).mono ?_
  rintro e w5 ⟨rfl, hb5⟩
  have hW5 : Ext w2 w5 := hW4.trans' hb5
  have c05 := (hbox2.ext hW5).cell 0
  have c15 := (hbox2.ext hW5).cell 1
  simp at c05 c15
  go_wp2_with fail
  -- tapestryref05.Encode
  refine (HER.out _ _ _ (rH _ hW5)).mono ?_
  rintro e w6 ⟨rfl, hb6⟩
  have hW6 : Ext w2 w6 := hW5.trans' hb6
  have c06 := (hbox2.ext hW6).cell 0
  have c16 := (hbox2.ext hW6).cell 1
  simp at c06 c16
  go_wp2_with fail
  -- tapestryref05.SamePuts
  refine (samePuts_any l l (by omega) (by omega) _ _ _ _ _ (rH _ hW6) (rA _ hW6)).mono ?_
  rintro e w7 ⟨rfl, hb7⟩
  have hW7 : Ext w2 w7 := hW6.trans' hb7
  go_wp2
  go_ret
  exact ⟨by simp, hE2.trans' hW7⟩
end Go.Proofs.Yteplpgknnlehnaa
