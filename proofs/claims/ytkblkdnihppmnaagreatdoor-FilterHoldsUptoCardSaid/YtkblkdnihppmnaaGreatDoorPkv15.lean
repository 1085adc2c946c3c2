/- Parts of this work, one behind the other: Rfc. -/
import Derived.Test.YtkblkdnihppmnaaGreatDoorPkv12
/- Filters (layer 21): the document's Number (walk). -/
namespace Go.Proofs.YtkblkdnihppmnaaGreatDoor
set_option linter.unusedSimpArgs false
set_option linter.unusedVariables false
open Go.RowKit Res Filt

/-- what Number hands back -/
abbrev NumIs (s : List UInt8) : Prop := ∀ w, Calls Tryz.prog 41 #[str s] w fun e w' => e = .returned (.tuple #[fi (numR s).1, .bool (numR s).2]) ∧ Ext w w'
abbrev minTxt : List UInt8 := [45, 57, 50, 50, 51, 51, 55, 50, 48, 51, 54, 56, 53, 52, 55, 55, 53, 56, 48, 56]
set_option maxRecDepth 100000 in
set_option maxHeartbeats 800000 in
theorem number_min : NumIs minTxt := by
  intro w
  have M := Mem.start w
  rw [show numR minTxt = (-9223372036854775808, true) from numR_min]
  go_enter Tryz.func41, Tryz.ntmps41
  (try dsimp only); (repeat (first | (first | ((with_reducible refine wl_g ?_); first | go_big_want | go_skip | ((with_reducible refine wl_off (by kernel_rfl) ?_); (first | ((with_reducible refine fastK Tryz.prog rfl ?_); go_big_move) | (with_reducible refine fastN rfl ?_) | skip)))) | go_values | go_skip | go_guarded | go_step | go_upon))
  exact ret_m2 rfl (Out.tmp rfl) (Out.tmp rfl) rfl ⟨rfl, M.ext_of⟩
set_option maxRecDepth 100000 in
set_option maxHeartbeats 800000 in
theorem number_minus (r : List UInt8) (h0 : r ≠ []) (hm : r ≠ min63) (hl : r.length ≤ 4194304) (ih : NumIs r) : NumIs (45 :: r) := by
  intro w
  have M := Mem.start w
  rw [numR_minus h0 hm]
  obtain ⟨v, b, hvb⟩ : ∃ v b, numR r = (v, b) := ⟨_, _, rfl⟩
  have HI : Hid (∀ w, Calls Tryz.prog 41 #[str r] w fun e w' => e = .returned (.tuple #[fi v, .bool b]) ∧ Ext w w') := Lib.hid (fun w => by have := ih w; rwa [hvb] at this)
  rw [hvb]
  have hlen : 0 < r.length := List.length_pos_iff.2 h0
  have q0 : ((45 :: r : List UInt8) == minTxt) = false := by
    rw [beq_eq_false_iff_ne]
    intro e
    exact hm (List.cons.inj e).2
  have q1 : decide (1 < ((45 :: r : List UInt8).length : Int)) = true := by simp; omega
  have HC : Hid ((45 :: r : List UInt8)[0]? = some 45) := Lib.hid rfl
  have hcut : (45 :: r : List UInt8).drop 1 = r := rfl
  have hs1 : 1 ≤ (45 :: r : List UInt8).length := by simp
  clear ih h0 hm hvb
  generalize (45 :: r : List UInt8) = s at *
  have hcase : (b = false ∧ (b && decide (0 < v)) = false) ∨ (b = true ∧ (b && decide (0 < v)) = true ∧ decide (0 < v) = true) ∨ (b = true ∧ (b && decide (0 < v)) = false ∧ decide (0 < v) = false) := by
    cases b
    · exact .inl ⟨rfl, rfl⟩
    · by_cases h : 0 < v
      · exact .inr (.inl ⟨rfl, by simpa using h, by simpa using h⟩)
      · exact .inr (.inr ⟨rfl, by simpa using h, by simpa using h⟩)
  dsimp only
  rcases hcase with ⟨rfl, e⟩ | ⟨rfl, e, q2⟩ | ⟨rfl, e, q2⟩
  all_goals
    rw [e, IntWalk.i64_left]
    clear e
    go_enter Tryz.func41, Tryz.ntmps41
    (try dsimp only); (repeat (first | (first | ((with_reducible refine on_indexT ?_); refine wp_indexT _ _ _ rfl Tryz.underlying9 s rfl _ 0 rfl 45 HC.out ?_; (first | ((with_reducible refine fastK Tryz.prog rfl ?_); go_big_move) | (with_reducible refine fastN rfl ?_) | skip)) | ((with_reducible refine on_cutT ?_); refine wp_restT _ _ _ rfl Tryz.underlying9 s rfl _ 1 (by first | rfl | (simp; done)) hs1 _ rfl ?_; rw [hcut]; (first | ((with_reducible refine fastK Tryz.prog rfl ?_); go_big_move) | (with_reducible refine fastN rfl ?_) | skip)) | (go_at_call 41; (with_reducible refine (HI.out _).mono ?_); rintro _ w1 ⟨rfl, hX⟩; replace M := M.ext hX; clear hX; dsimp only) | ((with_reducible refine wl_g ?_); first | go_big_want | go_skip | ((with_reducible refine wl_off (by kernel_rfl) ?_); (first | ((with_reducible refine fastK Tryz.prog rfl ?_); go_big_move) | (with_reducible refine fastN rfl ?_) | skip)))) | go_values | go_skip | go_guarded | go_step | go_upon))
    exact ret_m2 rfl (Out.tmp rfl) (Out.tmp rfl) rfl ⟨rfl, M.ext_of⟩
set_option maxRecDepth 100000 in
set_option maxHeartbeats 800000 in
theorem number_nil : NumIs [] := by
  intro w
  have M := Mem.start w
  rw [show numR [] = (0, false) from rfl]
  go_enter Tryz.func41, Tryz.ntmps41
  (try dsimp only); (repeat (first | (first | ((with_reducible refine wl_g ?_); first | go_big_want | go_skip | ((with_reducible refine wl_off (by kernel_rfl) ?_); (first | ((with_reducible refine fastK Tryz.prog rfl ?_); go_big_move) | (with_reducible refine fastN rfl ?_) | skip)))) | go_values | go_skip | go_guarded | go_step | go_upon))
  exact ret_m2 rfl (Out.tmp rfl) (Out.tmp rfl) rfl ⟨rfl, M.ext_of⟩
/-- a text that is no minus with something behind it -/
structure PlainTxt (s : List UInt8) (c : UInt8) : Prop where
  ne : (s == minTxt) = false
  first : s[0]? = some c
  no : 1 < s.length → c.toNat ≠ 45
theorem plainTxt {s : List UInt8} (h0 : s ≠ []) (h : ∀ r, r ≠ [] → s ≠ 45 :: r) : ∃ c, PlainTxt s c := by
  cases s with
  | nil => exact absurd rfl h0
  | cons c r =>
    refine ⟨c, ?_, rfl, ?_⟩
    · rw [beq_eq_false_iff_ne]
      intro e
      exact h _ (by decide) e
    · intro hl hc
      refine h r ?_ (by rw [show c = 45 from UInt8.toNat_inj.1 hc])
      rintro rfl
      simp at hl
set_option maxRecDepth 100000 in
set_option maxHeartbeats 800000 in
theorem number_long (s : List UInt8) (c : UInt8) (hc : PlainTxt s c) (hl : 19 < s.length) (hlen : s.length ≤ 4194304) (hr : numR s = (0, false)) : NumIs s := by
  intro w
  have M := Mem.start w
  rw [hr]
  have HC := Lib.hid hc.first
  have q0 := hc.ne
  have q1 : decide (1 < (s.length : Int)) = true := by simp; omega
  have q2 : ((c.toNat : Int) == 45) = false := by rw [beq_eq_false_iff_ne]; have := hc.no (by omega); omega
  have q3 : (s == []) = false := by rw [beq_eq_false_iff_ne]; rintro rfl; simp at hl
  have q3b : s.isEmpty = false := by cases s; simp at hl; rfl
  have q4 : decide (19 < (s.length : Int)) = true := by simp; omega
  clear hr hc
  go_enter Tryz.func41, Tryz.ntmps41
  (try dsimp only); (repeat (first | (first | ((with_reducible refine on_indexT ?_); refine wp_indexT _ _ _ rfl Tryz.underlying9 s rfl _ 0 rfl c HC.out ?_; (first | ((with_reducible refine fastK Tryz.prog rfl ?_); go_big_move) | (with_reducible refine fastN rfl ?_) | skip)) | ((with_reducible refine wl_g ?_); first | go_big_want | go_skip | ((with_reducible refine wl_off (by kernel_rfl) ?_); (first | ((with_reducible refine fastK Tryz.prog rfl ?_); go_big_move) | (with_reducible refine fastN rfl ?_) | skip)))) | go_values | go_skip | go_guarded | go_step | go_upon))
  exact ret_m2 rfl (Out.tmp rfl) (Out.tmp rfl) rfl ⟨rfl, M.ext_of⟩
set_option maxRecDepth 100000 in
set_option maxHeartbeats 800000 in
theorem number_zero (s : List UInt8) (c : UInt8) (hc : PlainTxt s c) (hl : ¬ 19 < s.length) (hl1 : 1 < s.length) (h48 : c.toNat = 48) (hr : numR s = (0, false)) : NumIs s := by
  intro w
  have M := Mem.start w
  rw [hr]
  have HC := Lib.hid hc.first
  have q0 := hc.ne
  have q1 : decide (1 < (s.length : Int)) = true := by simp; omega
  have q2 : ((c.toNat : Int) == 45) = false := by rw [beq_eq_false_iff_ne]; have := hc.no (by omega); omega
  have q3 : (s == []) = false := by rw [beq_eq_false_iff_ne]; rintro rfl; simp at hl1
  have q3b : s.isEmpty = false := by cases s; simp at hl1; rfl
  have q4 : decide (19 < (s.length : Int)) = false := by simp; omega
  have q5 : ((c.toNat : Int) == 48) = true := by rw [beq_iff_eq]; omega
  clear hr hc
  go_enter Tryz.func41, Tryz.ntmps41
  (try dsimp only); (repeat (first | (first | ((with_reducible refine on_indexT ?_); refine wp_indexT _ _ _ rfl Tryz.underlying9 s rfl _ 0 rfl c HC.out ?_; (first | ((with_reducible refine fastK Tryz.prog rfl ?_); go_big_move) | (with_reducible refine fastN rfl ?_) | skip)) | ((with_reducible refine wl_g ?_); first | go_big_want | go_skip | ((with_reducible refine wl_off (by kernel_rfl) ?_); (first | ((with_reducible refine fastK Tryz.prog rfl ?_); go_big_move) | (with_reducible refine fastN rfl ?_) | skip)))) | go_values | go_skip | go_guarded | go_step | go_upon))
  exact ret_m2 rfl (Out.tmp rfl) (Out.tmp rfl) rfl ⟨rfl, M.ext_of⟩
theorem take_all {s : List UInt8} {k : Nat} {c : UInt8} (h : (s.take k).all isDigit = true) (hc : s[k]? = some c) (hd : isDigit c = true) : (s.take (k + 1)).all isDigit = true := by
  rw [List.take_add_one, hc, List.all_append, h]
  simpa using hd
set_option maxRecDepth 100000 in
set_option maxHeartbeats 800000 in
theorem number_loop (s : List UInt8) (c : UInt8) (hc : PlainTxt s c) (hl : ¬ 19 < s.length) (h48 : 1 < s.length → c.toNat ≠ 48) (hp : ∀ r, r ≠ [] → s ≠ 45 :: r) : NumIs s := by
  intro w
  have M := Mem.start w
  obtain ⟨v, b, hvb⟩ : ∃ v b, numR s = (v, b) := ⟨_, _, rfl⟩
  rw [hvb]
  have hs0 : 0 < s.length := (List.getElem?_eq_some_iff.1 hc.first).1
  have HR : Hid (numR s = (v, b)) := Lib.hid hvb
  have HC := Lib.hid hc.first
  have HP := Lib.hid hp
  have q0 := hc.ne
  have q3 : (s == []) = false := by rw [beq_eq_false_iff_ne]; rintro rfl; simp at hs0
  have q3b : s.isEmpty = false := by cases s; simp at hs0; rfl
  have q4 : decide (19 < (s.length : Int)) = false := by simp; omega
  have hH : Hid (¬ (1 < s.length ∧ s.head? = some 48)) := Lib.hid (by
    rintro ⟨h1, h2⟩
    have h3 := hc.first
    rw [List.head?_eq_getElem?] at h2
    rw [h2] at h3
    cases h3
    exact h48 h1 rfl)
  have hcase : decide (1 < (s.length : Int)) = false ∨ (decide (1 < (s.length : Int)) = true ∧ ((c.toNat : Int) == 45) = false ∧ ((c.toNat : Int) == 48) = false) := by
    by_cases h : 1 < s.length
    · exact .inr ⟨by simp; omega, by rw [beq_eq_false_iff_ne]; have := hc.no h; omega, by rw [beq_eq_false_iff_ne]; have := h48 h; omega⟩
    · exact .inl (by simp; omega)
  have hnum0 : Hid (s.all isDigit = false → (v, b) = ((0 : Int), false)) := Lib.hid (fun h => by
    rw [← hvb, numR_plain hp]
    by_cases e : ∃ r, s = 45 :: r
    · obtain ⟨r, rfl⟩ := e
      by_cases hr : r = []
      · subst hr; rfl
      · exact absurd rfl (hp r hr)
    · rw [num_nodigits h (fun r e' => e ⟨r, e'⟩)])
  clear hvb hc h48 hp
  rcases hcase with q1 | ⟨q1, q2, q5⟩
  all_goals
    go_enter Tryz.func41, Tryz.ntmps41
    (try dsimp only); (repeat (first | (first | ((with_reducible refine on_indexT ?_); refine wp_indexT _ _ _ rfl Tryz.underlying9 s rfl _ 0 rfl c HC.out ?_; (first | ((with_reducible refine fastK Tryz.prog rfl ?_); go_big_move) | (with_reducible refine fastN rfl ?_) | skip)) | ((with_reducible refine wl_g ?_); first | go_big_want | go_skip | ((with_reducible refine wl_off (by kernel_rfl) ?_); (first | ((with_reducible refine fastK Tryz.prog rfl ?_); go_big_move) | (with_reducible refine fastN rfl ?_) | skip)))) | go_values | go_skip | go_guarded | go_step | go_upon))
    go_loop [6, 7] (fun n x => ∃ k : Nat, k ≤ s.length ∧ x = fi (k : Int) ∧ n = .int .u64 ((decVal (s.take k) : Nat) : Int) ∧ Hid ((s.take k).all isDigit = true)) (fun _ x => s.length - (intOf x).toNat)
    case atStart => exact ⟨0, by omega, rfl, rfl, Lib.hid rfl⟩
    case round =>
      obtain ⟨k, hk, rfl, rfl, hh⟩ := hrel
      have hv1 : decVal (s.take k) < 10 ^ k := decVal_lt (by rw [List.length_take]; omega) hh.out
      have hv2 : 10 ^ k ≤ 10 ^ 19 := Nat.pow_le_pow_right (by omega) (by omega)
      rcases Nat.lt_or_ge k s.length with hlt | hge
      · obtain ⟨d, hd⟩ : ∃ d, s[k]? = some d := ⟨_, List.getElem?_eq_getElem hlt⟩
        have g1 : decide ((k : Int) < (s.length : Int)) = true := by simp; omega
        have hwk : IntKind.i64.wrap ((k : Int) + 1) = (k : Int) + 1 := IntWalk.i64_in _ (by omega)
        have HDD := Lib.hid hd
        have hstep := decVal_take hd
        obtain ⟨b2, hb2⟩ : ∃ b, isDigit d = b := ⟨_, rfl⟩
        have HD : Hid (∀ w', Calls Tryz.prog 40 #[.int .u8 (d.toNat : Int)] w' fun e w'' => e = .returned (.bool b2) ∧ w' = w'') := Lib.hid (fun w' => by rw [← hb2]; exact ref_digit d w')
        cases b2
        · have hz := hnum0.out (by
            rw [← Bool.not_eq_true]
            intro h
            rw [all_at h hd] at hb2
            cases hb2)
          cases hz
          clear hd hb2 hstep hh hv1 hv2
          (try dsimp only); (repeat (first | (first | ((with_reducible refine on_indexT ?_); refine wp_indexT _ _ _ rfl Tryz.underlying9 s rfl _ k rfl d HDD.out ?_; (first | ((with_reducible refine fastK Tryz.prog rfl ?_); go_big_move) | (with_reducible refine fastN rfl ?_) | skip)) | (go_at_call 40; (with_reducible refine (HD.out _).mono ?_); rintro _ w1 ⟨rfl, rfl⟩; dsimp only) | ((with_reducible refine wl_g ?_); first | go_big_want | go_skip | ((with_reducible refine wl_off (by kernel_rfl) ?_); (first | ((with_reducible refine fastK Tryz.prog rfl ?_); go_big_move) | (with_reducible refine fastN rfl ?_) | skip)))) | go_values | go_skip | go_guarded | go_step | go_upon))
          exact ret_m2 rfl (Out.tmp rfl) (Out.tmp rfl) rfl ⟨rfl, M.ext_of⟩
        · have hN : Hid ((s.take (k + 1)).all isDigit = true) := Lib.hid (take_all hh.out hd hb2)
          have hdg := digit_nat hb2
          have hk19 : k + 1 ≤ 19 := by omega
          have hv3 : decVal (s.take (k + 1)) < 10 ^ (k + 1) := decVal_lt (by rw [List.length_take]; omega) hN.out
          have hv4 : 10 ^ (k + 1) ≤ 10 ^ 19 := Nat.pow_le_pow_right (by omega) (by omega)
          have hv5 : decVal (s.take (k + 1)) < 10000000000000000000 := Nat.lt_of_lt_of_le hv3 hv4
          have hv6 : decVal (s.take k) < 10000000000000000000 := Nat.lt_of_lt_of_le hv1 hv2
          obtain ⟨v0, hv0⟩ : ∃ v0, decVal (s.take k) = v0 := ⟨_, rfl⟩
          rw [hv0] at hstep hv6 ⊢
          have w1 : IntKind.u64.wrap ((v0 : Int) * 10) = (v0 : Int) * 10 := IntWalk.u64_in _ (by omega)
          have w2 : IntKind.u8.wrap ((d.toNat : Int) - 48) = (d.toNat : Int) - 48 := IntWalk.u8_in _ (by omega)
          have w3 : IntKind.u64.wrap ((d.toNat : Int) - 48) = (d.toNat : Int) - 48 := IntWalk.u64_in _ (by omega)
          have w4 : IntKind.u64.wrap ((v0 : Int) * 10 + ((d.toNat : Int) - 48)) = (v0 : Int) * 10 + ((d.toNat : Int) - 48) := IntWalk.u64_in _ (by omega)
          have HS := Lib.hid hstep
          clear hd hb2 hstep hh hv1 hv2 hv3 hv4 hv5 hv0 hnum0
          (try dsimp only); (repeat (first | (first | ((with_reducible refine on_indexT ?_); refine wp_indexT _ _ _ rfl Tryz.underlying9 s rfl _ k rfl d HDD.out ?_; (first | ((with_reducible refine fastK Tryz.prog rfl ?_); go_big_move) | (with_reducible refine fastN rfl ?_) | skip)) | (go_at_call 40; (with_reducible refine (HD.out _).mono ?_); rintro _ w1 ⟨rfl, rfl⟩; dsimp only) | ((with_reducible refine wl_g ?_); first | go_big_want | go_skip | ((with_reducible refine wl_off (by kernel_rfl) ?_); (first | ((with_reducible refine fastK Tryz.prog rfl ?_); go_big_move) | (with_reducible refine fastN rfl ?_) | skip)))) | go_values | go_skip | go_guarded | go_step | go_upon))
          refine ⟨⟨k + 1, by omega, by go_num, ?_, hN⟩, by simp [intOf]; omega⟩
          rw [HS.out]
          congr 1
          omega
      · have g1 : decide ((k : Int) < (s.length : Int)) = false := by simp; omega
        have hks : s.take k = s := List.take_of_length_le hge
        rw [hks] at hh hv1 ⊢
        have hval : Hid ((v, b) = if decVal s ≤ 9223372036854775807 then ((decVal s : Int), true) else (0, false)) := Lib.hid (by
          rw [← HR.out, numR_plain HP.out, num_digits hh.out (by rintro rfl; simp at hs0) (by omega) hH.out]
          by_cases h : decVal s ≤ 9223372036854775807
          · rw [if_pos h, if_pos h]
          · rw [if_neg h, if_neg h])
        by_cases hmax : decVal s ≤ 9223372036854775807
        · have hvb := hval.out
          rw [if_pos hmax] at hvb
          cases hvb
          have g2 : decide ((9223372036854775807 : Int) < (decVal s : Int)) = false := by simp; omega
          have w1 : IntKind.i64.wrap (decVal s : Int) = (decVal s : Int) := IntWalk.i64_in _ (by omega)
          clear hks hh hv1 hv2 hval hnum0 HR
          (try dsimp only); (repeat (first | (first | ((with_reducible refine wl_g ?_); first | go_big_want | go_skip | ((with_reducible refine wl_off (by kernel_rfl) ?_); (first | ((with_reducible refine fastK Tryz.prog rfl ?_); go_big_move) | (with_reducible refine fastN rfl ?_) | skip)))) | go_values | go_skip | go_guarded | go_step | go_upon))
          exact ret_m2 rfl (Out.tmp rfl) (Out.tmp rfl) rfl ⟨rfl, M.ext_of⟩
        · have hvb := hval.out
          rw [if_neg hmax] at hvb
          cases hvb
          have g2 : decide ((9223372036854775807 : Int) < (decVal s : Int)) = true := by simp; omega
          clear hks hh hv1 hv2 hval hnum0 HR
          (try dsimp only); (repeat (first | (first | ((with_reducible refine wl_g ?_); first | go_big_want | go_skip | ((with_reducible refine wl_off (by kernel_rfl) ?_); (first | ((with_reducible refine fastK Tryz.prog rfl ?_); go_big_move) | (with_reducible refine fastN rfl ?_) | skip)))) | go_values | go_skip | go_guarded | go_step | go_upon))
          exact ret_m2 rfl (Out.tmp rfl) (Out.tmp rfl) rfl ⟨rfl, M.ext_of⟩
/-- the document's Number, of any text -/
theorem ref_number : ∀ (s : List UInt8), s.length ≤ 4194304 → NumIs s
  | [], _ => number_nil
  | c :: r, hl => by
    by_cases h : c = 45 ∧ r ≠ []
    · obtain ⟨rfl, h0⟩ := h
      have hl' : r.length ≤ 4194304 := by simp only [List.length_cons] at hl; omega
      by_cases hm : r = min63
      · subst hm; exact number_min
      · exact number_minus r h0 hm hl' (ref_number r hl')
    · have hp : ∀ r', r' ≠ [] → c :: r ≠ 45 :: r' := fun r' h' e => h ⟨(List.cons.inj e).1, by rw [(List.cons.inj e).2]; exact h'⟩
      obtain ⟨d, hd⟩ := plainTxt (by simp) hp
      have hdc : d = c := by have := hd.first; simpa using this.symm
      by_cases h19 : 19 < (c :: r).length
      · refine number_long _ d hd h19 hl ?_
        rw [numR_plain hp, num_long h19 (fun r' e => by
          refine hp r' ?_ e
          rintro rfl
          rw [e] at h19
          simp at h19)]
      · by_cases h48 : 1 < (c :: r).length ∧ d.toNat = 48
        · refine number_zero _ d hd h19 h48.1 h48.2 ?_
          have hc48 : c = 48 := by rw [← hdc]; exact UInt8.toNat_inj.1 h48.2
          rw [numR_plain hp, hc48, num_zero (by rintro rfl; simp at h48)]
        · exact number_loop _ d hd h19 (fun h1 h2 => h48 ⟨h1, h2⟩) hp
end Go.Proofs.YtkblkdnihppmnaaGreatDoor
