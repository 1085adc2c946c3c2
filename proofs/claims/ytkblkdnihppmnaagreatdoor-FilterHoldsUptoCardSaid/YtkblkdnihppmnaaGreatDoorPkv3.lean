/- Parts of this work, one behind the other: FiltW1. -/
import Derived.Test.YtkblkdnihppmnaaGreatDoorProg
import Derived.WalkMore
import Derived.IntWalk
import Derived.BigGuardPart
import Derived.Test.YtkblkdnihppmnaaGreatDoorPkv0
/- Filters (layer 21): the program's tokens (walk, first part). -/
namespace Go.Proofs.YtkblkdnihppmnaaGreatDoor
set_option linter.unusedSimpArgs false
set_option linter.unusedVariables false
open Go.RowKit Res Filt

theorem small_any (c : UInt8) (w : World) : Calls Tryz.prog 31 #[.int .u8 (c.toNat : Int)] w fun e w' => e = .returned (.bool (isSmall c)) ∧ w = w' := by
  by_cases h1 : 97 ≤ c.toNat
  · have q1 : decide (97 ≤ (c.toNat : Int)) = true := by simp; omega
    have e : isSmall c = decide ((c.toNat : Int) ≤ 122) := by unfold isSmall; rw [decide_eq_decide]; omega
    rw [e]
    clear e
    go_enter Tryz.func31, Tryz.ntmps31
    go_wp2
    go_ret
    exact ⟨rfl, rfl⟩
  · have q1 : decide (97 ≤ (c.toNat : Int)) = false := by simp; omega
    have e : isSmall c = false := by unfold isSmall; rw [decide_eq_false_iff_not]; omega
    rw [e]
    clear e
    go_enter Tryz.func31, Tryz.ntmps31
    go_wp2
    go_ret
    exact ⟨rfl, rfl⟩
theorem digit_any (c : UInt8) (w : World) : Calls Tryz.prog 33 #[.int .u8 (c.toNat : Int)] w fun e w' => e = .returned (.bool (isDigit c)) ∧ w = w' := by
  by_cases h1 : 48 ≤ c.toNat
  · have q1 : decide (48 ≤ (c.toNat : Int)) = true := by simp; omega
    have e : isDigit c = decide ((c.toNat : Int) ≤ 57) := by unfold isDigit; rw [decide_eq_decide]; omega
    rw [e]
    clear e
    go_enter Tryz.func33, Tryz.ntmps33
    go_wp2
    go_ret
    exact ⟨rfl, rfl⟩
  · have q1 : decide (48 ≤ (c.toNat : Int)) = false := by simp; omega
    have e : isDigit c = false := by unfold isDigit; rw [decide_eq_false_iff_not]; omega
    rw [e]
    clear e
    go_enter Tryz.func33, Tryz.ntmps33
    go_wp2
    go_ret
    exact ⟨rfl, rfl⟩
theorem blank_any (c : UInt8) (w : World) : Calls Tryz.prog 30 #[.int .u8 (c.toNat : Int)] w fun e w' => e = .returned (.bool (isBlank c)) ∧ w = w' := by
  have e : isBlank c = ((c.toNat : Int) == 32) := by unfold isBlank; rw [Bool.eq_iff_iff, decide_eq_true_eq, beq_iff_eq]; omega
  rw [e]
  clear e
  go_enter Tryz.func30, Tryz.ntmps30
  go_wp2
  go_ret
  exact ⟨rfl, rfl⟩
theorem aln_any (c : UInt8) (w : World) : Calls Tryz.prog 32 #[.int .u8 (c.toNat : Int)] w fun e w' => e = .returned (.bool (isAln c)) ∧ w = w' := by
  have H1 := Lib.hid (small_any c)
  have H2 := Lib.hid (digit_any c)
  have e : isAln c = (isSmall c || isDigit c) := rfl
  rw [e]
  clear e
  generalize isDigit c = q at *
  cases hp : isSmall c
  all_goals
    rw [hp] at H1
    clear hp
    go_enter Tryz.func32, Tryz.ntmps32
    go_wp2_with (first | (go_at_call 31; (with_reducible refine (H1.out _).mono ?_); rintro e w1 ⟨rfl, rfl⟩) | (go_at_call 33; (with_reducible refine (H2.out _).mono ?_); rintro e w1 ⟨rfl, rfl⟩))
    go_ret
    exact ⟨rfl, rfl⟩
theorem runLen_step {p : UInt8 → Bool} {s : List UInt8} {m : Nat} {c : UInt8} (hc : s[m]? = some c) : runLen p (s.drop m) = if p c then runLen p (s.drop (m + 1)) + 1 else 0 := by
  obtain ⟨hm, rfl⟩ := List.getElem?_eq_some_iff.1 hc
  rw [List.drop_eq_getElem_cons hm]
  rfl
set_option maxRecDepth 100000 in
set_option maxHeartbeats 800000 in
theorem row_blank (s : List UInt8) (hs : s.length ≤ 1048576) (g from_ : Nat) (hf : from_ ≤ s.length) (w : World) (hc : w.cell? ⟨g, 0, none⟩ = some (str s)) :
    Calls Tryz.prog 29 #[.pointer (some ⟨g, 0, none⟩), .int .i64 (from_ : Int), .func (.func 30) #[] #[]] w fun e w' => e = .returned (.int .i64 ((from_ + runLen isBlank (s.drop from_) : Nat) : Int)) ∧ w = w' := by
  have HC := Lib.hid hc
  have M := Mem.start w
  clear hc
  obtain ⟨res, hres⟩ : ∃ res, res = from_ + runLen isBlank (s.drop from_) := ⟨_, rfl⟩
  rw [← hres]
  have HR := Lib.hid hres
  clear hres
  go_enter Tryz.func29, Tryz.ntmps29
  go_wp2
  go_loop [7] (fun n => ∃ m : Nat, m ≤ s.length ∧ n = .int .i64 (m : Int) ∧ Hid (res = m + runLen isBlank (s.drop m))) (fun n => s.length - (intOf n).toNat)
  case atStart => exact ⟨from_, hf, rfl, HR⟩
  case round =>
    obtain ⟨m, hm, rfl, hh⟩ := hrel
    by_cases hlt : m < s.length
    · have q1 : decide ((m : Int) < (s.length : Int)) = true := by simp; omega
      obtain ⟨c, hcm⟩ : ∃ c, s[m]? = some c := ⟨_, List.getElem?_eq_getElem hlt⟩
      have hst := runLen_step (p := isBlank) hcm
      have HCM := Lib.hid hcm
      have HF := Lib.hid (blank_any c)
      have hwm : IntKind.i64.wrap ((m : Int) + 1) = (m : Int) + 1 := IntWalk.i64_in _ (by omega)
      by_cases hp : isBlank c = true
      · rw [hp] at HF
        rw [if_pos hp] at hst
        have HN : Hid (res = (m + 1) + runLen isBlank (s.drop (m + 1))) := Lib.hid (by rw [hh.out, hst]; omega)
        clear hst hcm hp hh
        (try dsimp only); (repeat (first | (first | ((with_reducible refine on_load ?_); refine xlC HC.out ?_; go_big_move) | ((with_reducible refine on_indexT ?_); refine wp_indexT _ _ _ rfl Tryz.underlying9 s rfl _ m rfl c HCM.out ?_; (first | ((with_reducible refine fastK Tryz.prog rfl ?_); go_big_move) | (with_reducible refine fastN rfl ?_) | skip)) | (go_at_call 30; (with_reducible refine (HF.out _).mono ?_); rintro e w1 ⟨rfl, rfl⟩; dsimp only) | ((with_reducible refine wl_g ?_); first | go_big_want | go_skip | ((with_reducible refine wl_off (by kernel_rfl) ?_); (first | ((with_reducible refine fastK Tryz.prog rfl ?_); go_big_move) | (with_reducible refine fastN rfl ?_) | skip))) | ((with_reducible refine on_load ?_); (first | refine xl1 M ?_ | refine xlN M ?_); go_big_move)) | go_values | go_skip | go_guarded | go_step | go_upon))
        exact ⟨⟨m + 1, by omega, by go_num, HN⟩, by simp [intOf]; omega⟩
      · have hp : isBlank c = false := by simpa using hp
        rw [hp] at HF
        rw [hp, if_neg (by simp)] at hst
        have HN : Hid (res = m) := Lib.hid (by rw [hh.out, hst]; rfl)
        clear hst hcm hp hh
        (try dsimp only); (repeat (first | (first | ((with_reducible refine on_load ?_); refine xlC HC.out ?_; go_big_move) | ((with_reducible refine on_indexT ?_); refine wp_indexT _ _ _ rfl Tryz.underlying9 s rfl _ m rfl c HCM.out ?_; (first | ((with_reducible refine fastK Tryz.prog rfl ?_); go_big_move) | (with_reducible refine fastN rfl ?_) | skip)) | (go_at_call 30; (with_reducible refine (HF.out _).mono ?_); rintro e w1 ⟨rfl, rfl⟩; dsimp only) | ((with_reducible refine wl_g ?_); first | go_big_want | go_skip | ((with_reducible refine wl_off (by kernel_rfl) ?_); (first | ((with_reducible refine fastK Tryz.prog rfl ?_); go_big_move) | (with_reducible refine fastN rfl ?_) | skip))) | ((with_reducible refine on_load ?_); (first | refine xl1 M ?_ | refine xlN M ?_); go_big_move)) | go_values | go_skip | go_guarded | go_step | go_upon))
        exact ret_m1 rfl (Out.tmp rfl) rfl ⟨by rw [HN.out]; rfl, rfl⟩
    · have q1 : decide ((m : Int) < (s.length : Int)) = false := by simp; omega
      have HN : Hid (res = m) := Lib.hid (by
        have e : s.drop m = [] := List.drop_eq_nil_of_le (by omega)
        rw [hh.out, e]; rfl)
      clear hh
      (try dsimp only); (repeat (first | (first | ((with_reducible refine on_load ?_); refine xlC HC.out ?_; go_big_move) | ((with_reducible refine wl_g ?_); first | go_big_want | go_skip | ((with_reducible refine wl_off (by kernel_rfl) ?_); (first | ((with_reducible refine fastK Tryz.prog rfl ?_); go_big_move) | (with_reducible refine fastN rfl ?_) | skip))) | ((with_reducible refine on_load ?_); (first | refine xl1 M ?_ | refine xlN M ?_); go_big_move)) | go_values | go_skip | go_guarded | go_step | go_upon))
      exact ret_m1 rfl (Out.tmp rfl) rfl ⟨by rw [HN.out]; rfl, rfl⟩
set_option maxRecDepth 100000 in
set_option maxHeartbeats 800000 in
theorem row_aln (s : List UInt8) (hs : s.length ≤ 1048576) (g from_ : Nat) (hf : from_ ≤ s.length) (w : World) (hc : w.cell? ⟨g, 0, none⟩ = some (str s)) :
    Calls Tryz.prog 29 #[.pointer (some ⟨g, 0, none⟩), .int .i64 (from_ : Int), .func (.func 32) #[] #[]] w fun e w' => e = .returned (.int .i64 ((from_ + runLen isAln (s.drop from_) : Nat) : Int)) ∧ w = w' := by
  have HC := Lib.hid hc
  have M := Mem.start w
  clear hc
  obtain ⟨res, hres⟩ : ∃ res, res = from_ + runLen isAln (s.drop from_) := ⟨_, rfl⟩
  rw [← hres]
  have HR := Lib.hid hres
  clear hres
  go_enter Tryz.func29, Tryz.ntmps29
  go_wp2
  go_loop [7] (fun n => ∃ m : Nat, m ≤ s.length ∧ n = .int .i64 (m : Int) ∧ Hid (res = m + runLen isAln (s.drop m))) (fun n => s.length - (intOf n).toNat)
  case atStart => exact ⟨from_, hf, rfl, HR⟩
  case round =>
    obtain ⟨m, hm, rfl, hh⟩ := hrel
    by_cases hlt : m < s.length
    · have q1 : decide ((m : Int) < (s.length : Int)) = true := by simp; omega
      obtain ⟨c, hcm⟩ : ∃ c, s[m]? = some c := ⟨_, List.getElem?_eq_getElem hlt⟩
      have hst := runLen_step (p := isAln) hcm
      have HCM := Lib.hid hcm
      have HF := Lib.hid (aln_any c)
      have hwm : IntKind.i64.wrap ((m : Int) + 1) = (m : Int) + 1 := IntWalk.i64_in _ (by omega)
      by_cases hp : isAln c = true
      · rw [hp] at HF
        rw [if_pos hp] at hst
        have HN : Hid (res = (m + 1) + runLen isAln (s.drop (m + 1))) := Lib.hid (by rw [hh.out, hst]; omega)
        clear hst hcm hp hh
        (try dsimp only); (repeat (first | (first | ((with_reducible refine on_load ?_); refine xlC HC.out ?_; go_big_move) | ((with_reducible refine on_indexT ?_); refine wp_indexT _ _ _ rfl Tryz.underlying9 s rfl _ m rfl c HCM.out ?_; (first | ((with_reducible refine fastK Tryz.prog rfl ?_); go_big_move) | (with_reducible refine fastN rfl ?_) | skip)) | (go_at_call 32; (with_reducible refine (HF.out _).mono ?_); rintro e w1 ⟨rfl, rfl⟩; dsimp only) | ((with_reducible refine wl_g ?_); first | go_big_want | go_skip | ((with_reducible refine wl_off (by kernel_rfl) ?_); (first | ((with_reducible refine fastK Tryz.prog rfl ?_); go_big_move) | (with_reducible refine fastN rfl ?_) | skip))) | ((with_reducible refine on_load ?_); (first | refine xl1 M ?_ | refine xlN M ?_); go_big_move)) | go_values | go_skip | go_guarded | go_step | go_upon))
        exact ⟨⟨m + 1, by omega, by go_num, HN⟩, by simp [intOf]; omega⟩
      · have hp : isAln c = false := by simpa using hp
        rw [hp] at HF
        rw [hp, if_neg (by simp)] at hst
        have HN : Hid (res = m) := Lib.hid (by rw [hh.out, hst]; rfl)
        clear hst hcm hp hh
        (try dsimp only); (repeat (first | (first | ((with_reducible refine on_load ?_); refine xlC HC.out ?_; go_big_move) | ((with_reducible refine on_indexT ?_); refine wp_indexT _ _ _ rfl Tryz.underlying9 s rfl _ m rfl c HCM.out ?_; (first | ((with_reducible refine fastK Tryz.prog rfl ?_); go_big_move) | (with_reducible refine fastN rfl ?_) | skip)) | (go_at_call 32; (with_reducible refine (HF.out _).mono ?_); rintro e w1 ⟨rfl, rfl⟩; dsimp only) | ((with_reducible refine wl_g ?_); first | go_big_want | go_skip | ((with_reducible refine wl_off (by kernel_rfl) ?_); (first | ((with_reducible refine fastK Tryz.prog rfl ?_); go_big_move) | (with_reducible refine fastN rfl ?_) | skip))) | ((with_reducible refine on_load ?_); (first | refine xl1 M ?_ | refine xlN M ?_); go_big_move)) | go_values | go_skip | go_guarded | go_step | go_upon))
        exact ret_m1 rfl (Out.tmp rfl) rfl ⟨by rw [HN.out]; rfl, rfl⟩
    · have q1 : decide ((m : Int) < (s.length : Int)) = false := by simp; omega
      have HN : Hid (res = m) := Lib.hid (by
        have e : s.drop m = [] := List.drop_eq_nil_of_le (by omega)
        rw [hh.out, e]; rfl)
      clear hh
      (try dsimp only); (repeat (first | (first | ((with_reducible refine on_load ?_); refine xlC HC.out ?_; go_big_move) | ((with_reducible refine wl_g ?_); first | go_big_want | go_skip | ((with_reducible refine wl_off (by kernel_rfl) ?_); (first | ((with_reducible refine fastK Tryz.prog rfl ?_); go_big_move) | (with_reducible refine fastN rfl ?_) | skip))) | ((with_reducible refine on_load ?_); (first | refine xl1 M ?_ | refine xlN M ?_); go_big_move)) | go_values | go_skip | go_guarded | go_step | go_upon))
      exact ret_m1 rfl (Out.tmp rfl) rfl ⟨by rw [HN.out]; rfl, rfl⟩
set_option maxRecDepth 100000 in
set_option maxHeartbeats 800000 in
theorem row_digit (s : List UInt8) (hs : s.length ≤ 1048576) (g from_ : Nat) (hf : from_ ≤ s.length) (w : World) (hc : w.cell? ⟨g, 0, none⟩ = some (str s)) :
    Calls Tryz.prog 29 #[.pointer (some ⟨g, 0, none⟩), .int .i64 (from_ : Int), .func (.func 33) #[] #[]] w fun e w' => e = .returned (.int .i64 ((from_ + runLen isDigit (s.drop from_) : Nat) : Int)) ∧ w = w' := by
  have HC := Lib.hid hc
  have M := Mem.start w
  clear hc
  obtain ⟨res, hres⟩ : ∃ res, res = from_ + runLen isDigit (s.drop from_) := ⟨_, rfl⟩
  rw [← hres]
  have HR := Lib.hid hres
  clear hres
  go_enter Tryz.func29, Tryz.ntmps29
  go_wp2
  go_loop [7] (fun n => ∃ m : Nat, m ≤ s.length ∧ n = .int .i64 (m : Int) ∧ Hid (res = m + runLen isDigit (s.drop m))) (fun n => s.length - (intOf n).toNat)
  case atStart => exact ⟨from_, hf, rfl, HR⟩
  case round =>
    obtain ⟨m, hm, rfl, hh⟩ := hrel
    by_cases hlt : m < s.length
    · have q1 : decide ((m : Int) < (s.length : Int)) = true := by simp; omega
      obtain ⟨c, hcm⟩ : ∃ c, s[m]? = some c := ⟨_, List.getElem?_eq_getElem hlt⟩
      have hst := runLen_step (p := isDigit) hcm
      have HCM := Lib.hid hcm
      have HF := Lib.hid (digit_any c)
      have hwm : IntKind.i64.wrap ((m : Int) + 1) = (m : Int) + 1 := IntWalk.i64_in _ (by omega)
      by_cases hp : isDigit c = true
      · rw [hp] at HF
        rw [if_pos hp] at hst
        have HN : Hid (res = (m + 1) + runLen isDigit (s.drop (m + 1))) := Lib.hid (by rw [hh.out, hst]; omega)
        clear hst hcm hp hh
        (try dsimp only); (repeat (first | (first | ((with_reducible refine on_load ?_); refine xlC HC.out ?_; go_big_move) | ((with_reducible refine on_indexT ?_); refine wp_indexT _ _ _ rfl Tryz.underlying9 s rfl _ m rfl c HCM.out ?_; (first | ((with_reducible refine fastK Tryz.prog rfl ?_); go_big_move) | (with_reducible refine fastN rfl ?_) | skip)) | (go_at_call 33; (with_reducible refine (HF.out _).mono ?_); rintro e w1 ⟨rfl, rfl⟩; dsimp only) | ((with_reducible refine wl_g ?_); first | go_big_want | go_skip | ((with_reducible refine wl_off (by kernel_rfl) ?_); (first | ((with_reducible refine fastK Tryz.prog rfl ?_); go_big_move) | (with_reducible refine fastN rfl ?_) | skip))) | ((with_reducible refine on_load ?_); (first | refine xl1 M ?_ | refine xlN M ?_); go_big_move)) | go_values | go_skip | go_guarded | go_step | go_upon))
        exact ⟨⟨m + 1, by omega, by go_num, HN⟩, by simp [intOf]; omega⟩
      · have hp : isDigit c = false := by simpa using hp
        rw [hp] at HF
        rw [hp, if_neg (by simp)] at hst
        have HN : Hid (res = m) := Lib.hid (by rw [hh.out, hst]; rfl)
        clear hst hcm hp hh
        (try dsimp only); (repeat (first | (first | ((with_reducible refine on_load ?_); refine xlC HC.out ?_; go_big_move) | ((with_reducible refine on_indexT ?_); refine wp_indexT _ _ _ rfl Tryz.underlying9 s rfl _ m rfl c HCM.out ?_; (first | ((with_reducible refine fastK Tryz.prog rfl ?_); go_big_move) | (with_reducible refine fastN rfl ?_) | skip)) | (go_at_call 33; (with_reducible refine (HF.out _).mono ?_); rintro e w1 ⟨rfl, rfl⟩; dsimp only) | ((with_reducible refine wl_g ?_); first | go_big_want | go_skip | ((with_reducible refine wl_off (by kernel_rfl) ?_); (first | ((with_reducible refine fastK Tryz.prog rfl ?_); go_big_move) | (with_reducible refine fastN rfl ?_) | skip))) | ((with_reducible refine on_load ?_); (first | refine xl1 M ?_ | refine xlN M ?_); go_big_move)) | go_values | go_skip | go_guarded | go_step | go_upon))
        exact ret_m1 rfl (Out.tmp rfl) rfl ⟨by rw [HN.out]; rfl, rfl⟩
    · have q1 : decide ((m : Int) < (s.length : Int)) = false := by simp; omega
      have HN : Hid (res = m) := Lib.hid (by
        have e : s.drop m = [] := List.drop_eq_nil_of_le (by omega)
        rw [hh.out, e]; rfl)
      clear hh
      (try dsimp only); (repeat (first | (first | ((with_reducible refine on_load ?_); refine xlC HC.out ?_; go_big_move) | ((with_reducible refine wl_g ?_); first | go_big_want | go_skip | ((with_reducible refine wl_off (by kernel_rfl) ?_); (first | ((with_reducible refine fastK Tryz.prog rfl ?_); go_big_move) | (with_reducible refine fastN rfl ?_) | skip))) | ((with_reducible refine on_load ?_); (first | refine xl1 M ?_ | refine xlN M ?_); go_big_move)) | go_values | go_skip | go_guarded | go_step | go_upon))
      exact ret_m1 rfl (Out.tmp rfl) rfl ⟨by rw [HN.out]; rfl, rfl⟩
end Go.Proofs.YtkblkdnihppmnaaGreatDoor
