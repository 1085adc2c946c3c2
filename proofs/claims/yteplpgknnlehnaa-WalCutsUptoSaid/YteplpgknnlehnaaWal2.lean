/- Logs (layer 5): batches; the statement WalEncodes' parts. -/
import Derived.Test.YteplpgknnlehnaaWal
namespace Go.Proofs.Yteplpgknnlehnaa
set_option linter.unusedSimpArgs false
set_option linter.unusedVariables false
open Go.RowKit

structure Batch where
  seq : Nat
  puts : List Put

def lastOf (b : Batch) : Nat := b.seq + b.puts.length - 1
def Batch.Right (b : Batch) : Prop := wcheck b.puts = 0 ∧ 0 < b.puts.length ∧ 1 ≤ b.seq ∧ b.seq ≤ maxSeq ∧ lastOf b ≤ maxSeq
instance (b : Batch) : Decidable b.Right := by unfold Batch.Right; infer_instance

theorem wcheck_or (l : List Put) : wcheck l = 0 ∨ wcheck l = 1 := by unfold wcheck; split <;> simp
theorem wcheck_parts {l : List Put} (h : wcheck l = 0) : l.length ≤ 256 ∧ (∀ p ∈ l, p.may = true) ∧ (loadBytes maxSeq l).length ≤ 262144 := by
  unfold wcheck at h
  split at h
  · assumption
  · cases h

/-- a batch's cells -/
def bcells (seq : Nat) (A : Option Addr) (n c : Nat) : Array Value := #[.int .u64 seq, .slice A n c]

set_option maxRecDepth 100000 in
set_option maxHeartbeats 800000 in
theorem last_any (seq n c : Nat) (A : Option Addr) (hs : seq ≤ 1125899906842624) (hn : n ≤ 1099511627776) (h1 : 1 ≤ seq + n) (w : World) :
    Calls Try.prog 68 #[.agg #[.int .u64 seq, .slice A n c]] w fun e w' => e = .returned (.int .u64 ((seq + n - 1 : Nat) : Int)) ∧ Ext w w' := by
  go_enter Try.func68, Try.ntmps68
  go_wp2
  go_ret
  have e : Value.int .u64 ((seq : Int) + n - 1) = .int .u64 ((seq + n - 1 : Nat) : Int) := by rw [show ((seq + n - 1 : Nat) : Int) = (seq : Int) + n - 1 by omega]
  exact ⟨congrArg Ending.returned e, by (repeat (first | exact Below.refl _ _ | refine Ext.trans' ?_ (Ext.al _ _) | refine Ext.trans' ?_ (Ext.dr _) | refine Ext.trans' ?_ (by assumption)))⟩
set_option maxRecDepth 100000 in
set_option maxHeartbeats 800000 in
theorem last_ref (seq n c : Nat) (A : Option Addr) (hs : seq ≤ 1125899906842624) (hn : n ≤ 1099511627776) (h1 : 1 ≤ seq + n) (w : World) :
    Calls Try.prog 32 #[.agg #[.int .u64 seq, .slice A n c]] w fun e w' => e = .returned (.int .u64 ((seq + n - 1 : Nat) : Int)) ∧ Ext w w' := by
  go_enter Try.func32, Try.ntmps32
  go_wp2
  go_ret
  have e : Value.int .u64 ((seq : Int) + n - 1) = .int .u64 ((seq + n - 1 : Nat) : Int) := by rw [show ((seq + n - 1 : Nat) : Int) = (seq : Int) + n - 1 by omega]
  exact ⟨congrArg Ending.returned e, by (repeat (first | exact Below.refl _ _ | refine Ext.trans' ?_ (Ext.al _ _) | refine Ext.trans' ?_ (Ext.dr _) | refine Ext.trans' ?_ (by assumption)))⟩

set_option maxRecDepth 100000 in
set_option maxHeartbeats 800000 in
theorem right_any (b : Batch) (hs : b.seq < M64) (hl : b.puts.length ≤ 1099511627776) (hsm : small b.puts) (A : Option Addr) (c : Nat) (w : World) (hr : Row w 0 w.heap.size 3 A b.puts.length (b.puts.flatMap Put.cells)) :
    Calls Try.prog 39 #[.agg #[.int .u64 b.seq, .slice A b.puts.length c]] w fun e w' => e = .returned (.bool (decide b.Right)) ∧ Ext w w' := by
  obtain ⟨seq, l⟩ := b
  dsimp only at *
  have hchk := fun w hr => check_any l hl hsm A c w hr
  have HC := Lib.hid hchk
  have hr1 : ∀ o, Row (w.alloc o) 0 (w.alloc o).heap.size 3 A l.length (l.flatMap Put.cells) := fun o => (hr.alloc (Nat.le_refl _) o).wide (Nat.le_refl _) (by simp)
  clear hchk hsm hr
  have h1' : Hid (seq < M64) := hs
  clear hs
  by_cases hR : Batch.Right ⟨seq, l⟩
  · have e : decide (Batch.Right ⟨seq, l⟩) = true := decide_eq_true hR
    rw [e]
    obtain ⟨h0, hn, h1, h2, h3⟩ := hR
    simp only [lastOf, maxSeq] at h0 hn h1 h2 h3
    rw [h0] at HC
    clear e h0
    go_enter Try.func39, Try.ntmps39
    go_wp2_with (first | (go_at_call 12; refine (HC.out _ (hr1 _)).mono ?_; rintro e w1 ⟨rfl, hb1⟩; obtain ⟨hc1, -⟩ := bcell hb1; have hz1 := hb1.size; simp at hz1) | (go_at_call 68; refine (last_any seq l.length c A (by omega) hl (by omega) _).mono ?_; rintro e w2 ⟨rfl, hb2⟩))
    all_goals go_ret
    all_goals exact ⟨by first | rfl | (simp; done) | (simp; omega), by (repeat (first | exact Below.refl _ _ | refine Ext.trans' ?_ (Ext.al _ _) | refine Ext.trans' ?_ (Ext.dr _) | refine Ext.trans' ?_ (by assumption)))⟩
  · have e : decide (Batch.Right ⟨seq, l⟩) = false := decide_eq_false hR
    rw [e]
    have hR' : ¬ (wcheck l = 0 ∧ 0 < l.length ∧ 1 ≤ seq ∧ seq ≤ 1125899906842624 ∧ seq + l.length - 1 ≤ 1125899906842624) := hR
    have HR := Lib.hid hR'
    clear hR hR' e
    by_cases hn : 0 < l.length
    · rcases wcheck_or l with h0 | h0
      · rw [h0] at HC
        by_cases h1 : 1 ≤ seq
        · by_cases h2 : seq ≤ 1125899906842624
          · have h3 : 1125899906842624 < seq + l.length - 1 := by have := HR.out; omega
            clear HR h0
            go_enter Try.func39, Try.ntmps39
            go_wp2_with (first | (go_at_call 12; refine (HC.out _ (hr1 _)).mono ?_; rintro e w1 ⟨rfl, hb1⟩; obtain ⟨hc1, -⟩ := bcell hb1; have hz1 := hb1.size; simp at hz1) | (go_at_call 68; refine (last_any seq l.length c A (by omega) hl (by omega) _).mono ?_; rintro e w2 ⟨rfl, hb2⟩))
            all_goals go_ret
            all_goals exact ⟨by first | rfl | (simp; done) | (simp; omega), by (repeat (first | exact Below.refl _ _ | refine Ext.trans' ?_ (Ext.al _ _) | refine Ext.trans' ?_ (Ext.dr _) | refine Ext.trans' ?_ (by assumption)))⟩
          · clear HR h0
            have h2' : 1125899906842624 < seq := by omega
            go_enter Try.func39, Try.ntmps39
            go_wp2_with (first | (go_at_call 12; refine (HC.out _ (hr1 _)).mono ?_; rintro e w1 ⟨rfl, hb1⟩; obtain ⟨hc1, -⟩ := bcell hb1; have hz1 := hb1.size; simp at hz1) | (go_at_call 68; refine (last_any seq l.length c A (by omega) hl (by omega) _).mono ?_; rintro e w2 ⟨rfl, hb2⟩))
            all_goals go_ret
            all_goals exact ⟨by first | rfl | (simp; done) | (simp; omega), by (repeat (first | exact Below.refl _ _ | refine Ext.trans' ?_ (Ext.al _ _) | refine Ext.trans' ?_ (Ext.dr _) | refine Ext.trans' ?_ (by assumption)))⟩
        · clear HR h0
          obtain rfl : seq = 0 := by omega
          go_enter Try.func39, Try.ntmps39
          go_wp2_with (first | (go_at_call 12; refine (HC.out _ (hr1 _)).mono ?_; rintro e w1 ⟨rfl, hb1⟩; obtain ⟨hc1, -⟩ := bcell hb1; have hz1 := hb1.size; simp at hz1) | (go_at_call 68; refine (last_any seq l.length c A (by omega) hl (by omega) _).mono ?_; rintro e w2 ⟨rfl, hb2⟩))
          all_goals go_ret
          all_goals exact ⟨by first | rfl | (simp; done) | (simp; omega), by (repeat (first | exact Below.refl _ _ | refine Ext.trans' ?_ (Ext.al _ _) | refine Ext.trans' ?_ (Ext.dr _) | refine Ext.trans' ?_ (by assumption)))⟩
      · rw [h0] at HC
        clear HR h0
        go_enter Try.func39, Try.ntmps39
        go_wp2_with (first | (go_at_call 12; refine (HC.out _ (hr1 _)).mono ?_; rintro e w1 ⟨rfl, hb1⟩; obtain ⟨hc1, -⟩ := bcell hb1; have hz1 := hb1.size; simp at hz1) | (go_at_call 68; refine (last_any seq l.length c A (by omega) hl (by omega) _).mono ?_; rintro e w2 ⟨rfl, hb2⟩))
        all_goals go_ret
        all_goals exact ⟨by first | rfl | (simp; done) | (simp; omega), by (repeat (first | exact Below.refl _ _ | refine Ext.trans' ?_ (Ext.al _ _) | refine Ext.trans' ?_ (Ext.dr _) | refine Ext.trans' ?_ (by assumption)))⟩
    · clear HR
      have hn0 : ((l.length : Int)) ≤ 0 := by omega
      have hcc := wcheck_or l
      rcases hcc with h0 | h0
      all_goals
        rw [h0] at HC
        clear h0
        go_enter Try.func39, Try.ntmps39
        go_wp2_with (first | (go_at_call 12; refine (HC.out _ (hr1 _)).mono ?_; rintro e w1 ⟨rfl, hb1⟩; obtain ⟨hc1, -⟩ := bcell hb1; have hz1 := hb1.size; simp at hz1) | (go_at_call 68; refine (last_any seq l.length c A (by omega) hl (by omega) _).mono ?_; rintro e w2 ⟨rfl, hb2⟩))
        all_goals go_ret
        all_goals exact ⟨by first | rfl | (simp; done) | (simp; omega), by (repeat (first | exact Below.refl _ _ | refine Ext.trans' ?_ (Ext.al _ _) | refine Ext.trans' ?_ (Ext.dr _) | refine Ext.trans' ?_ (by assumption)))⟩
set_option maxRecDepth 100000 in
set_option maxHeartbeats 800000 in
theorem right_ref (b : Batch) (hs : b.seq < M64) (hl : b.puts.length ≤ 1099511627776) (hsm : small b.puts) (A : Option Addr) (c : Nat) (w : World) (hr : Row w 0 w.heap.size 3 A b.puts.length (b.puts.flatMap Put.cells)) :
    Calls Try.prog 31 #[.agg #[.int .u64 b.seq, .slice A b.puts.length c]] w fun e w' => e = .returned (.bool (decide b.Right)) ∧ Ext w w' := by
  obtain ⟨seq, l⟩ := b
  dsimp only at *
  have hchk := fun w hr => check_ref l hl hsm A c w hr
  have HC := Lib.hid hchk
  have hr1 : ∀ o, Row (w.alloc o) 0 (w.alloc o).heap.size 3 A l.length (l.flatMap Put.cells) := fun o => (hr.alloc (Nat.le_refl _) o).wide (Nat.le_refl _) (by simp)
  clear hchk hsm hr
  have h1' : Hid (seq < M64) := hs
  clear hs
  by_cases hR : Batch.Right ⟨seq, l⟩
  · have e : decide (Batch.Right ⟨seq, l⟩) = true := decide_eq_true hR
    rw [e]
    obtain ⟨h0, hn, h1, h2, h3⟩ := hR
    simp only [lastOf, maxSeq] at h0 hn h1 h2 h3
    rw [h0] at HC
    clear e h0
    go_enter Try.func31, Try.ntmps31
    go_wp2_with (first | (go_at_call 14; refine (HC.out _ (hr1 _)).mono ?_; rintro e w1 ⟨rfl, hb1⟩; obtain ⟨hc1, -⟩ := bcell hb1; have hz1 := hb1.size; simp at hz1) )
    all_goals go_ret
    all_goals exact ⟨by first | rfl | (simp; done) | (simp; omega), by (repeat (first | exact Below.refl _ _ | refine Ext.trans' ?_ (Ext.al _ _) | refine Ext.trans' ?_ (Ext.dr _) | refine Ext.trans' ?_ (by assumption)))⟩
  · have e : decide (Batch.Right ⟨seq, l⟩) = false := decide_eq_false hR
    rw [e]
    have hR' : ¬ (wcheck l = 0 ∧ 0 < l.length ∧ 1 ≤ seq ∧ seq ≤ 1125899906842624 ∧ seq + l.length - 1 ≤ 1125899906842624) := hR
    have HR := Lib.hid hR'
    clear hR hR' e
    by_cases hn : 0 < l.length
    · rcases wcheck_or l with h0 | h0
      · rw [h0] at HC
        by_cases h1 : 1 ≤ seq
        · by_cases h2 : seq ≤ 1125899906842624
          · have h3 : 1125899906842624 < seq + l.length - 1 := by have := HR.out; omega
            clear HR h0
            go_enter Try.func31, Try.ntmps31
            go_wp2_with (first | (go_at_call 14; refine (HC.out _ (hr1 _)).mono ?_; rintro e w1 ⟨rfl, hb1⟩; obtain ⟨hc1, -⟩ := bcell hb1; have hz1 := hb1.size; simp at hz1) )
            all_goals go_ret
            all_goals exact ⟨by first | rfl | (simp; done) | (simp; omega), by (repeat (first | exact Below.refl _ _ | refine Ext.trans' ?_ (Ext.al _ _) | refine Ext.trans' ?_ (Ext.dr _) | refine Ext.trans' ?_ (by assumption)))⟩
          · clear HR h0
            have h2' : 1125899906842624 < seq := by omega
            go_enter Try.func31, Try.ntmps31
            go_wp2_with (first | (go_at_call 14; refine (HC.out _ (hr1 _)).mono ?_; rintro e w1 ⟨rfl, hb1⟩; obtain ⟨hc1, -⟩ := bcell hb1; have hz1 := hb1.size; simp at hz1) )
            all_goals go_ret
            all_goals exact ⟨by first | rfl | (simp; done) | (simp; omega), by (repeat (first | exact Below.refl _ _ | refine Ext.trans' ?_ (Ext.al _ _) | refine Ext.trans' ?_ (Ext.dr _) | refine Ext.trans' ?_ (by assumption)))⟩
        · clear HR h0
          obtain rfl : seq = 0 := by omega
          go_enter Try.func31, Try.ntmps31
          go_wp2_with (first | (go_at_call 14; refine (HC.out _ (hr1 _)).mono ?_; rintro e w1 ⟨rfl, hb1⟩; obtain ⟨hc1, -⟩ := bcell hb1; have hz1 := hb1.size; simp at hz1) )
          all_goals go_ret
          all_goals exact ⟨by first | rfl | (simp; done) | (simp; omega), by (repeat (first | exact Below.refl _ _ | refine Ext.trans' ?_ (Ext.al _ _) | refine Ext.trans' ?_ (Ext.dr _) | refine Ext.trans' ?_ (by assumption)))⟩
      · rw [h0] at HC
        clear HR h0
        go_enter Try.func31, Try.ntmps31
        go_wp2_with (first | (go_at_call 14; refine (HC.out _ (hr1 _)).mono ?_; rintro e w1 ⟨rfl, hb1⟩; obtain ⟨hc1, -⟩ := bcell hb1; have hz1 := hb1.size; simp at hz1) )
        all_goals go_ret
        all_goals exact ⟨by first | rfl | (simp; done) | (simp; omega), by (repeat (first | exact Below.refl _ _ | refine Ext.trans' ?_ (Ext.al _ _) | refine Ext.trans' ?_ (Ext.dr _) | refine Ext.trans' ?_ (by assumption)))⟩
    · clear HR
      have hn0 : ((l.length : Int)) ≤ 0 := by omega
      have hcc := wcheck_or l
      rcases hcc with h0 | h0
      all_goals
        rw [h0] at HC
        clear h0
        go_enter Try.func31, Try.ntmps31
        go_wp2_with (first | (go_at_call 14; refine (HC.out _ (hr1 _)).mono ?_; rintro e w1 ⟨rfl, hb1⟩; obtain ⟨hc1, -⟩ := bcell hb1; have hz1 := hb1.size; simp at hz1) )
        all_goals go_ret
        all_goals exact ⟨by first | rfl | (simp; done) | (simp; omega), by (repeat (first | exact Below.refl _ _ | refine Ext.trans' ?_ (Ext.al _ _) | refine Ext.trans' ?_ (Ext.dr _) | refine Ext.trans' ?_ (by assumption)))⟩

/-- a batch as a frame's bytes -/
def encodeBatch (b : Batch) : List UInt8 × Int := if b.Right then putFrame 2 (loadBytes b.seq b.puts) else ([], 1)

set_option maxRecDepth 100000 in
set_option maxHeartbeats 800000 in
theorem encode_any (b : Batch) (hs : b.seq < M64) (hl : b.puts.length ≤ 1099511627776) (hsm : small b.puts) (A : Option Addr) (c : Nat) (w : World) (hr : Row w 0 w.heap.size 3 A b.puts.length (b.puts.flatMap Put.cells)) :
    Calls Try.prog 13 #[.agg #[.int .u64 b.seq, .slice A b.puts.length c]] w fun e w' => e = .returned (.tuple #[str (encodeBatch b).1, .int .i64 (encodeBatch b).2]) ∧ Ext w w' := by
  have hrr := fun w hr => right_any b hs hl hsm A c w hr
  by_cases hR : b.Right
  · have e : encodeBatch b = putFrame 2 (loadBytes b.seq b.puts) := if_pos hR
    rw [e]
    rw [decide_eq_true hR] at hrr
    obtain ⟨h0, hn, h1, h2, h3⟩ := hR
    obtain ⟨hp1, hp2, hp3⟩ := wcheck_parts h0
    have hll := load_len hs hp1 hp2
    have hlo := fun w hr => load_any b.seq hs b.puts hp1 hp2 A c w hr
    have HR := Lib.hid hrr
    have HL := Lib.hid hlo
    clear hrr hlo e h0 hn h1 h2 h3 hp2 hp3 hsm
    obtain ⟨seq, l⟩ := b
    dsimp only at *
    have h1' : Hid (seq < M64) := hs
    clear hs
    have hr1 : ∀ o w1, Ext (w.alloc o) w1 → Row w1 0 w1.heap.size 3 A l.length (l.flatMap Put.cells) := fun o w1 h => (hr.below (Ext.trans' (Ext.al w o) h) (Nat.le_refl _)).wide (Nat.le_refl _) (Ext.trans' (Ext.al w o) h).size
    clear hr
    have hk2 : ∀ w, Calls Try.prog 40 #[.agg #[.int .u8 2, str (loadBytes seq l)]] w fun e w' => e = .returned (.tuple #[str (putFrame 2 (loadBytes seq l)).1, .int .i64 (putFrame 2 (loadBytes seq l)).2]) ∧ Ext w w' := framePut_any 2 _ (by omega)
    have HK := Lib.hid hk2
    clear hk2
    go_enter Try.func13, Try.ntmps13
    go_wp2_with fail
    refine (HR.out _ (hr1 _ _ (Below.refl _ _))).mono ?_
    rintro e w1 ⟨rfl, hb1⟩
    have hr2 := hr1 _ _ hb1
    obtain ⟨hc1, -⟩ := bcell hb1
    have hz1 := hb1.size
    simp at hz1
    clear hr1
    go_wp2_with fail
    refine (HL.out _ hr2).mono ?_
    rintro e w2 ⟨rfl, hb2⟩
    clear hr2
    go_wp2_with fail
    refine (HK.out _).mono ?_
    rintro e w3 ⟨rfl, hb3⟩
    go_wp2
    go_ret2
    exact ⟨rfl, by (repeat (first | exact Below.refl _ _ | refine Ext.trans' ?_ (Ext.al _ _) | refine Ext.trans' ?_ (Ext.dr _) | refine Ext.trans' ?_ (by assumption)))⟩
  · have e : encodeBatch b = ([], 1) := if_neg hR
    rw [e]
    rw [decide_eq_false hR] at hrr
    have HR := Lib.hid hrr
    clear hrr e hR hsm
    obtain ⟨seq, l⟩ := b
    dsimp only at *
    have h1' : Hid (seq < M64) := hs
    clear hs
    have hr1 : ∀ o, Row (w.alloc o) 0 (w.alloc o).heap.size 3 A l.length (l.flatMap Put.cells) := fun o => (hr.alloc (Nat.le_refl _) o).wide (Nat.le_refl _) (by simp)
    clear hr
    go_enter Try.func13, Try.ntmps13
    go_wp2_with fail
    refine (HR.out _ (hr1 _)).mono ?_
    rintro e w1 ⟨rfl, hb1⟩
    go_wp2
    go_ret2
    exact ⟨rfl, by (repeat (first | exact Below.refl _ _ | refine Ext.trans' ?_ (Ext.al _ _) | refine Ext.trans' ?_ (Ext.dr _) | refine Ext.trans' ?_ (by assumption)))⟩
set_option maxRecDepth 100000 in
set_option maxHeartbeats 800000 in
theorem encode_ref (b : Batch) (hs : b.seq < M64) (hl : b.puts.length ≤ 1099511627776) (hsm : small b.puts) (A : Option Addr) (c : Nat) (w : World) (hr : Row w 0 w.heap.size 3 A b.puts.length (b.puts.flatMap Put.cells)) :
    Calls Try.prog 15 #[.agg #[.int .u64 b.seq, .slice A b.puts.length c]] w fun e w' => e = .returned (.tuple #[str (encodeBatch b).1, .int .i64 (encodeBatch b).2]) ∧ Ext w w' := by
  have hrr := fun w hr => right_ref b hs hl hsm A c w hr
  by_cases hR : b.Right
  · have e : encodeBatch b = putFrame 2 (loadBytes b.seq b.puts) := if_pos hR
    rw [e]
    rw [decide_eq_true hR] at hrr
    obtain ⟨h0, hn, h1, h2, h3⟩ := hR
    obtain ⟨hp1, hp2, hp3⟩ := wcheck_parts h0
    have hll := load_len hs hp1 hp2
    have hlo := fun w hr => load_ref b.seq hs b.puts hp1 hp2 A c w hr
    have HR := Lib.hid hrr
    have HL := Lib.hid hlo
    clear hrr hlo e h0 hn h1 h2 h3 hp2 hp3 hsm
    obtain ⟨seq, l⟩ := b
    dsimp only at *
    have h1' : Hid (seq < M64) := hs
    clear hs
    have hr1 : ∀ o w1, Ext (w.alloc o) w1 → Row w1 0 w1.heap.size 3 A l.length (l.flatMap Put.cells) := fun o w1 h => (hr.below (Ext.trans' (Ext.al w o) h) (Nat.le_refl _)).wide (Nat.le_refl _) (Ext.trans' (Ext.al w o) h).size
    clear hr
    have hk2 : ∀ w, Calls Try.prog 43 #[.agg #[.int .u8 2, str (loadBytes seq l)]] w fun e w' => e = .returned (.tuple #[str (putFrame 2 (loadBytes seq l)).1, .int .i64 (putFrame 2 (loadBytes seq l)).2]) ∧ Ext w w' := framePut_ref 2 _ (by omega)
    have HK := Lib.hid hk2
    clear hk2
    go_enter Try.func15, Try.ntmps15
    go_wp2_with fail
    refine (HR.out _ (hr1 _ _ (Below.refl _ _))).mono ?_
    rintro e w1 ⟨rfl, hb1⟩
    have hr2 := hr1 _ _ hb1
    obtain ⟨hc1, -⟩ := bcell hb1
    have hz1 := hb1.size
    simp at hz1
    clear hr1
    go_wp2_with fail
    refine (HL.out _ hr2).mono ?_
    rintro e w2 ⟨rfl, hb2⟩
    clear hr2
    go_wp2_with fail
    refine (HK.out _).mono ?_
    rintro e w3 ⟨rfl, hb3⟩
    go_wp2
    go_ret2
    exact ⟨rfl, by (repeat (first | exact Below.refl _ _ | refine Ext.trans' ?_ (Ext.al _ _) | refine Ext.trans' ?_ (Ext.dr _) | refine Ext.trans' ?_ (by assumption)))⟩
  · have e : encodeBatch b = ([], 1) := if_neg hR
    rw [e]
    rw [decide_eq_false hR] at hrr
    have HR := Lib.hid hrr
    clear hrr e hR hsm
    obtain ⟨seq, l⟩ := b
    dsimp only at *
    have h1' : Hid (seq < M64) := hs
    clear hs
    have hr1 : ∀ o, Row (w.alloc o) 0 (w.alloc o).heap.size 3 A l.length (l.flatMap Put.cells) := fun o => (hr.alloc (Nat.le_refl _) o).wide (Nat.le_refl _) (by simp)
    clear hr
    go_enter Try.func15, Try.ntmps15
    go_wp2_with fail
    refine (HR.out _ (hr1 _)).mono ?_
    rintro e w1 ⟨rfl, hb1⟩
    go_wp2
    go_ret2
    exact ⟨rfl, by (repeat (first | exact Below.refl _ _ | refine Ext.trans' ?_ (Ext.al _ _) | refine Ext.trans' ?_ (Ext.dr _) | refine Ext.trans' ?_ (by assumption)))⟩
end Go.Proofs.Yteplpgknnlehnaa
