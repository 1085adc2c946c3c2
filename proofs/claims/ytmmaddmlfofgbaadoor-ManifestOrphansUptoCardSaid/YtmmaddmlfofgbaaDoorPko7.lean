/- Parts of this work, one behind the other: HexH. -/
import Derived.BigGuardPart
import Derived.Test.YtmmaddmlfofgbaaDoorPko0
import Derived.Test.YtmmaddmlfofgbaaDoorPko4
/- Names of numbers (layers 5 and 10): read (walk). -/
namespace Go.Proofs.YtmmaddmlfofgbaaDoor
set_option linter.unusedSimpArgs false
set_option linter.unusedVariables false
open Go.RowKit Res

/-- the library's variables that the parser reads -/
structure Ev (w : World) : Prop where
  syn : ∃ t v, w.cell? ⟨0, 0, none⟩ = some (.iface t v)
  rng : ∃ t v, w.cell? ⟨1, 0, none⟩ = some (.iface t v)
  lt : 0 < w.heap.size ∧ 1 < w.heap.size
theorem Ev.ext {w w' : World} (h : Ev w) (hX : Ext w w') : Ev w' := by
  obtain ⟨⟨t, v, h1⟩, ⟨t', v', h2⟩, h3, h4⟩ := h
  have hs := hX.size
  exact ⟨⟨t, v, (hX.cell (p := ⟨0, 0, none⟩) h3).trans h1⟩, ⟨t', v', (hX.cell (p := ⟨1, 0, none⟩) h4).trans h2⟩, Nat.lt_of_lt_of_le h3 hs, Nat.lt_of_lt_of_le h4 hs⟩
theorem toErr (fn : ByteArray) (s : ByteArray) (hs : s.size ≤ 281474976710656) (k : Int) (hk : k = 1 ∨ k = 2) (w : World) (hE : Ev w) :
    Calls Tryd.prog 32 #[.string fn, .string s, .int .i64 16, .int .i64 64, .iface 91 (.int .i64 k)] w fun e w' => (∃ t v, e = .returned (.iface t v)) ∧ Ext w w' := by
  obtain ⟨⟨t, v, h1⟩, ⟨t', v', h2⟩, h3⟩ := hE
  rcases hk with rfl | rfl
  · exact (Tryd.strconv_toError_range fn s 16 64 _ w hs h2 (.inr ⟨_, _, rfl⟩)).mono fun e w' ⟨N, h, _, _, hb⟩ => ⟨⟨_, _, h⟩, hb⟩
  · exact (Tryd.strconv_toError_syntax fn s 16 64 _ w hs h1 (.inr ⟨_, _, rfl⟩)).mono fun e w' ⟨N, h, _, _, hb⟩ => ⟨⟨_, _, h⟩, hb⟩
set_option maxRecDepth 100000 in
set_option maxHeartbeats 800000 in
theorem parseUint_empty (w : World) : Calls Tryd.prog 31 #[str [], .int .i64 16, .int .i64 64] w (PU w []) := by
  go_enter Tryd.func31, Tryd.ntmps31
  go_wp2
  go_ret2
  exact PU.no (Below.refl _ _) rfl (.inr rfl) rfl
theorem parseUint_all (s : List UInt8) (hmax : s.length ≤ 140737488355328) (w : World) : Calls Tryd.prog 31 #[str s, .int .i64 16, .int .i64 64] w (PU w s) := by
  cases s with
  | nil => exact parseUint_empty w
  | cons c r => exact parseUint_16 ⟨(c :: r).toArray⟩ (by show (c :: r).toArray.size ≠ 0; simp) (by show (c :: r).toArray.size ≤ _; simpa using hmax) w
/-- .. as it is handed out -/
def PP (w : World) (s : List UInt8) (e : Ending) (w' : World) : Prop :=
  Ext w w' ∧ ((∃ n, parse16 s = some n ∧ e = .returned (.tuple #[.int .u64 (n : Int), .nilIface])) ∨ (parse16 s = none ∧ ∃ v t x, e = .returned (.tuple #[.int .u64 v, .iface t x])))
set_option maxRecDepth 100000 in
set_option maxHeartbeats 800000 in
theorem parseUint_pub (s : List UInt8) (hmax : s.length ≤ 140737488355328) (w : World) (hE : Ev w) : Calls Tryd.prog 22 #[str s, .int .i64 16, .int .i64 64] w (PP w s) := by
  have HP := Lib.hid (parseUint_all s hmax w)
  have HT : Hid (∀ k w', Ext w w' → (k = 1 ∨ k = 2) → Calls Tryd.prog 32 #[.string ⟨#[80, 97, 114, 115, 101, 85, 105, 110, 116]⟩, str s, .int .i64 16, .int .i64 64, .iface 91 (.int .i64 k)] w' fun e w'' => (∃ t v, e = .returned (.iface t v)) ∧ Ext w' w'') :=
    Lib.hid (fun k w' hx hk => toErr _ ⟨s.toArray⟩ (by show s.toArray.size ≤ _; simp; omega) k hk w' (hE.ext hx))
  clear hE
  go_enter Tryd.func22, Tryd.ntmps22
  go_wp2_with (go_at_call 31; (with_reducible refine HP.out.mono ?_); rintro e w1 ⟨hX, ⟨n, hn, rfl⟩ | ⟨hn, v, k, hk, rfl⟩⟩)
  · have HN := Lib.hid hn
    clear hn
    go_wp2
    go_ret2
    exact ⟨hX, .inl ⟨n, HN.out, rfl⟩⟩
  · have HN := Lib.hid hn
    have HK := Lib.hid hk
    clear hn hk
    go_wp2_with (go_at_call 32; (with_reducible refine (HT.out _ _ hX HK.out).mono ?_); rintro e w2 ⟨⟨t, x, rfl⟩, hX2⟩)
    go_ret2
    exact ⟨Ext.trans' hX hX2, .inr ⟨HN.out, _, _, _, rfl⟩⟩
theorem numb_no {ahead name : List UInt8} (h : Lib.hasPrefix name ahead = false) : numbR ahead name = (0, false) := by
  rw [← numb_same]
  unfold numbP
  refine if_neg fun e => ?_
  have := Lib.hasPrefix_of_take name ahead
  rw [h] at this
  have hl : ahead.length ≤ name.length := by
    have := congrArg List.length e
    rw [List.length_take] at this
    omega
  simp [hl, e] at this
theorem prefix_take {ahead name : List UInt8} (h : Lib.hasPrefix name ahead = true) : name.take ahead.length = ahead ∧ ahead.length ≤ name.length := by
  have := Lib.hasPrefix_of_take name ahead
  rw [h] at this
  simp only [Bool.and_eq_true, decide_eq_true_eq, beq_iff_eq] at this
  exact ⟨this.2, this.1⟩
theorem numb_none {ahead name : List UInt8} (h : parse16 (name.drop ahead.length) = none) : numbR ahead name = (0, false) := by
  rw [← numb_same]
  unfold numbP
  rw [h]
  split <;> rfl
theorem numb_yes {ahead name : List UInt8} {n : Nat} (h : Lib.hasPrefix name ahead = true) (h1 : parse16 (name.drop ahead.length) = some n) (h2 : ahead ++ hexDigs 16 n = name) : numbR ahead name = (n, true) := by
  rw [← numb_same]
  unfold numbP
  rw [h1, if_pos (prefix_take h).1]
  exact if_pos h2
theorem numb_other {ahead name : List UInt8} {n : Nat} (h1 : parse16 (name.drop ahead.length) = some n) (h2 : ¬ ahead ++ hexDigs 16 n = name) : numbR ahead name = (0, false) := by
  rw [← numb_same]
  unfold numbP
  rw [h1]
  split
  · exact if_neg h2
  · rfl
theorem parse16_lt {s : List UInt8} {n : Nat} (h : parse16 s = some n) : n < 18446744073709551616 := by
  unfold parse16 at h
  split at h
  · cases h
  · split at h
    · split at h
      · rename_i h2; cases h; unfold M64 at h2; exact h2
      · cases h
    · cases h
theorem numb_len {ahead name : List UInt8} (h : (name.drop ahead.length).length ≠ 16) : numbR ahead name = (0, false) := by
  unfold numbR
  refine if_neg fun x => h ?_
  rw [List.length_drop]
  omega
set_option maxRecDepth 100000 in
set_option maxHeartbeats 800000 in
theorem log_number (name : List UInt8) (hmax : name.length ≤ 140737488355328) (w : World) (ht : Tz w) (hE : Ev w) :
    Calls Tryd.prog 10 #[str name] w fun e w' => e = .returned (.tuple #[.int .u64 ((numbR logT name).1 : Int), .bool (numbR logT name).2]) ∧ Ext w w' := by
  have HC : Hid (∀ w, Calls Tryd.prog 21 #[str name, .string ⟨#[108, 111, 103, 45]⟩] w fun e w' => e = .returned (.tuple #[str (Lib.trimPrefix name logT), .bool (Lib.hasPrefix name logT)]) ∧ w = w') := Lib.hid (fun w => (Tryd.strings_CutPrefix ⟨name.toArray⟩ ⟨logT.toArray⟩ w).mono fun e w' ⟨h1, h2⟩ => ⟨h1, h2.symm⟩)
  have HP : Hid (∀ s w', s.length ≤ 140737488355328 → Ext w w' → Calls Tryd.prog 22 #[str s, .int .i64 16, .int .i64 64] w' (PP w' s)) := Lib.hid (fun s w' hs hx => parseUint_pub s hs w' (hE.ext hx))
  have HN : Hid (∀ n : Nat, n < 18446744073709551616 → ∀ w', Ext w w' → Calls Tryd.prog 23 #[.int .u64 n] w' fun e w'' => e = .returned (str (logT ++ hexDigs 16 n)) ∧ Ext w' w'') := Lib.hid (fun n hn w' hx => wal_name n hn w' (ht.ext hx))
  clear ht hE
  by_cases hp : Lib.hasPrefix name logT = true
  · have et : Lib.trimPrefix name logT = name.drop logT.length := if_pos hp
    have hl : (name.drop logT.length).length ≤ 140737488355328 := by rw [List.length_drop]; omega
    rw [hp, et] at HC
    have HYES := Lib.hid (fun n => numb_yes (n := n) hp)
    have HOT := Lib.hid (fun n => numb_other (ahead := logT) (name := name) (n := n))
    have HNO := Lib.hid (numb_none (ahead := logT) (name := name))
    have HLE := Lib.hid (numb_len (ahead := logT) (name := name))
    clear et hp
    generalize name.drop logT.length = s at *
    by_cases h16 : s.length = 16
    · have q1 : ((s.length : Int) != 16) = false := by simp; omega
      clear HLE
      go_enter Tryd.func10, Tryd.ntmps10
      go_wp2_with (first | (go_at_call 21; (with_reducible refine (HC.out _).mono ?_); rintro e w1 ⟨rfl, rfl⟩) | (go_at_call 22; (with_reducible refine (HP.out _ _ hl (Below.refl _ _)).mono ?_); rintro e w2 ⟨hX, ⟨n, hn, rfl⟩ | ⟨hn, v, t, x, rfl⟩⟩))
      · have hlt := parse16_lt hn
        have HX := Lib.hid hX
        have HL := Lib.hid hlt
        obtain ⟨nm, hnm⟩ : ∃ nm, nm = logT ++ hexDigs 16 n := ⟨_, rfl⟩
        have HNM : Hid (∀ w', Ext w w' → Calls Tryd.prog 23 #[.int .u64 n] w' fun e w'' => e = .returned (str nm) ∧ Ext w' w'') := Lib.hid (by rw [hnm]; exact HN.out n hlt)
        by_cases he : nm = name
        · have HR := Lib.hid (HYES.out n hn (by rw [← hnm]; exact he))
          subst he
          clear hlt hn hX HN hnm
          go_wp2_with (go_at_call 23; (with_reducible refine (HNM.out _ HX.out).mono ?_); rintro e w3 ⟨rfl, hX3⟩)
          go_ret2
          exact ⟨by rw [HR.out]; rfl, Ext.trans' HX.out hX3⟩
        · have HR := Lib.hid (HOT.out n hn (by rw [← hnm]; exact he))
          have hb : (nm != name) = true := by rw [bne_iff_ne]; exact he
          have hb2 : (nm == name) = false := by rw [beq_eq_false_iff_ne]; exact he
          clear hlt hn hX HN hnm he
          go_wp2_with (go_at_call 23; (with_reducible refine (HNM.out _ HX.out).mono ?_); rintro e w3 ⟨rfl, hX3⟩)
          go_ret2
          exact ⟨by rw [HR.out]; rfl, Ext.trans' HX.out hX3⟩
      · have HR := Lib.hid (HNO.out hn)
        clear hn
        go_wp2
        go_ret2
        exact ⟨by rw [HR.out]; rfl, hX⟩
    · have q1 : ((s.length : Int) != 16) = true := by rw [bne_iff_ne]; omega
      have HR := Lib.hid (HLE.out h16)
      clear h16
      go_enter Tryd.func10, Tryd.ntmps10
      go_wp2_with (go_at_call 21; (with_reducible refine (HC.out _).mono ?_); rintro e w1 ⟨rfl, rfl⟩)
      go_ret2
      exact ⟨by rw [HR.out]; rfl, Below.refl _ _⟩
  · have hp : Lib.hasPrefix name logT = false := by simpa using hp
    have et : Lib.trimPrefix name logT = name := by unfold Lib.trimPrefix; rw [hp]; rfl
    rw [hp, et] at HC
    have HR := Lib.hid (numb_no hp)
    clear et hp
    go_enter Tryd.func10, Tryd.ntmps10
    go_wp2_with (go_at_call 21; (with_reducible refine (HC.out _).mono ?_); rintro e w1 ⟨rfl, rfl⟩)
    go_ret2
    exact ⟨by rw [HR.out]; rfl, Below.refl _ _⟩
/-! ## the document's -/
theorem low_none {c : UInt8} (h1 : ¬ (48 ≤ c.toNat ∧ c.toNat ≤ 57)) (h2 : ¬ (97 ≤ c.toNat ∧ c.toNat ≤ 102)) : lowVal c = none := by unfold lowVal; rw [if_neg h1, if_neg h2]
set_option maxRecDepth 100000 in
set_option maxHeartbeats 800000 in
theorem numbered_any (name ahead : List UInt8) (ha : ahead.length ≤ 64) (hmax : name.length ≤ 140737488355328) (w : World) :
    Calls Tryd.prog 26 #[str name, str ahead] w fun e w' => e = .returned (.tuple #[.int .u64 ((numbR ahead name).1 : Int), .bool (numbR ahead name).2]) ∧ w = w' := by
  have hw1 : IntKind.i64.wrap ((ahead.length : Int) + 16) = (ahead.length : Int) + 16 := IntWalk.i64_in _ (by omega)
  by_cases hl : name.length = ahead.length + 16
  · have q1 : ((name.length : Int) != (ahead.length : Int) + 16) = false := by simp; omega
    have hsl : ((ahead.length : Int)).toNat = ahead.length := by omega
    by_cases hp : name.take ahead.length = ahead
    · have q2 : (((⟨name.toArray⟩ : ByteArray).extract 0 ahead.length).toList == ahead) = true := by rw [Lib.extract_toList]; simp [hp]
      have hR : numbR ahead name = match valFrom lowVal 0 (name.drop ahead.length) with | some n => (n, true) | none => (0, false) := by unfold numbR; exact if_pos ⟨hl, hp⟩
      have HR := Lib.hid hR
      have HG : Hid (∀ k, k < 16 → ∃ c, name[ahead.length + k]? = some c ∧ (name.drop ahead.length).drop k = c :: (name.drop ahead.length).drop (k + 1)) := Lib.hid (fun k hk => by
        refine ⟨name[ahead.length + k]'(by omega), List.getElem?_eq_getElem (by omega), ?_⟩
        have := List.drop_eq_getElem_cons (l := name.drop ahead.length) (i := k) (by rw [List.length_drop]; omega)
        rw [this, List.getElem_drop])
      have HD : Hid ((name.drop ahead.length).length = 16) := Lib.hid (by rw [List.length_drop]; omega)
      clear hR hp
      have M := Mem.start w
      go_enter Tryd.func26, Tryd.ntmps26
      go_wp2
      clear q1 q2
      go_loop [6, 7] (fun n i => ∃ (k m : Nat), k ≤ 16 ∧ n = .int .u64 (m : Int) ∧ i = .int .i64 ((ahead.length : Int) + k) ∧ Hid (m < 16 ^ k ∧ valFrom lowVal 0 (name.drop ahead.length) = valFrom lowVal m ((name.drop ahead.length).drop k))) (fun _ i => (ahead.length + 16) - (intOf i).toNat)
      case atStart => exact ⟨0, 0, by omega, rfl, by simp, by omega, rfl⟩
      case round =>
        obtain ⟨k, m, hk, rfl, rfl, hh⟩ := hrel
        obtain ⟨hm, hv⟩ := hh.out
        clear hh
        by_cases hk16 : k < 16
        · obtain ⟨c, hc, hd⟩ := HG.out k hk16
          rw [hd] at hv
          have hm60 : m < 1152921504606846976 := by
            have : 16 ^ k ≤ 16 ^ 15 := Nat.pow_le_pow_right (by decide) (by omega)
            have e : (16 : Nat) ^ 15 = 1152921504606846976 := by decide
            omega
          have hlt : (ahead.length : Int) + k < (name.length : Int) := by omega
          have hwk : IntKind.i64.wrap ((ahead.length : Int) + k + 1) = (ahead.length : Int) + k + 1 := IntWalk.i64_in _ (by omega)
          have hc256 : c.toNat < 256 := c.toNat_lt
          have HC := Lib.hid (show (⟨name.toArray⟩ : ByteArray).data.toList[ahead.length + k]? = some c from by simpa using hc)
          clear hc hd
          by_cases hdig : 48 ≤ c.toNat ∧ c.toNat ≤ 57
          · obtain ⟨h0, h1⟩ := hdig
            have hlv : lowVal c = some (c.toNat - 48) := if_pos ⟨h0, h1⟩
            have HN : Hid (16 * m + (c.toNat - 48) < 16 ^ (k + 1) ∧ valFrom lowVal 0 (name.drop ahead.length) = valFrom lowVal (16 * m + (c.toNat - 48)) ((name.drop ahead.length).drop (k + 1))) := Lib.hid ⟨by rw [Nat.pow_succ]; omega, by rw [hv]; simp only [valFrom, hlv]⟩
            have g1 : decide (48 ≤ (c.toNat : Int)) = true := by simp; omega
            have g2 : decide ((c.toNat : Int) ≤ 57) = true := by simp; omega
            clear hv hlv hm
            (try dsimp only); (repeat (first | (first | ((with_reducible refine on_index ?_); refine wp_indexS _ _ _ rfl Tryd.underlying9 _ rfl _ (ahead.length + k) (by first | rfl | (simp; done)) c HC.out ?_; (first | ((with_reducible refine fastK Tryd.prog rfl ?_); go_big_move) | ((with_reducible refine fastS Tryd.prog rfl ?_); go_big_move; (with_reducible show wpStill _ _ _ _ _ _)) | (with_reducible refine fastN rfl ?_) | (with_reducible refine fastSN rfl ?_) | (simp only [Act.put, List.setIfInBounds_toArray, List.set_cons_zero, List.set_cons_succ]) | skip)) | ((with_reducible refine wl_g ?_); first | go_big_want | go_skip | ((with_reducible refine wl_off (by kernel_rfl) ?_); (first | ((with_reducible refine fastK Tryd.prog rfl ?_); go_big_move) | ((with_reducible refine fastS Tryd.prog rfl ?_); go_big_move; (with_reducible show wpStill _ _ _ _ _ _)) | (with_reducible refine fastN rfl ?_) | (with_reducible refine fastSN rfl ?_) | (simp only [Act.put, List.setIfInBounds_toArray, List.set_cons_zero, List.set_cons_succ]) | skip))) | ((with_reducible refine on_load ?_); first | (refine wp_load1 M _ _ rfl _ _ rfl (by (repeat (first | exact Pick.head | apply Pick.tail)); done) (fun w => ⟨by first | (simp [go_sem]; done) | (simp [go_sem]; rfl), by first | (simp [go_sem]; done) | (simp [go_sem]; rfl)⟩) _ (by rfl) ?_; (first | ((with_reducible refine fastK Tryd.prog rfl ?_); go_big_move) | ((with_reducible refine fastS Tryd.prog rfl ?_); go_big_move; (with_reducible show wpStill _ _ _ _ _ _)) | (with_reducible refine fastN rfl ?_) | (with_reducible refine fastSN rfl ?_) | (simp only [Act.put, List.setIfInBounds_toArray, List.set_cons_zero, List.set_cons_succ]) | skip)) | (refine wp_loadN M _ _ rfl _ rfl (by (repeat (first | exact Pick.head | apply Pick.tail)); done) (fun w => ⟨by first | (simp [go_sem]; done) | (simp [go_sem]; rfl), by first | (simp [go_sem]; done) | (simp [go_sem]; rfl)⟩) ?_; (first | ((with_reducible refine fastK Tryd.prog rfl ?_); go_big_move) | ((with_reducible refine fastS Tryd.prog rfl ?_); go_big_move; (with_reducible show wpStill _ _ _ _ _ _)) | (with_reducible refine fastN rfl ?_) | (with_reducible refine fastSN rfl ?_) | (simp only [Act.put, List.setIfInBounds_toArray, List.set_cons_zero, List.set_cons_succ]) | skip))) | ((with_reducible refine on_store ?_); first | (refine wp_store1 M _ _ _ rfl _ _ rfl (by (repeat (first | exact Pick.head | apply Pick.tail)); done) (fun w => ⟨by first | (simp [go_sem]; done) | (simp [go_sem]; rfl), by first | (simp [go_sem]; done) | (simp [go_sem]; rfl)⟩) _ (by first | exact CellsOf.agg _ | exact CellsOf.int _ _ | exact CellsOf.str _ | exact CellsOf.bool _ | exact CellsOf.slice _ _ _ | exact CellsOf.pointer _) (by rfl) (by (simp; done)) ?_; clear M; intro w' M; (try simp only [List.set_cons_zero, List.set_cons_succ] at M); (first | ((with_reducible refine fastK Tryd.prog rfl ?_); go_big_move) | ((with_reducible refine fastS Tryd.prog rfl ?_); go_big_move; (with_reducible show wpStill _ _ _ _ _ _)) | (with_reducible refine fastN rfl ?_) | (with_reducible refine fastSN rfl ?_) | (simp only [Act.put, List.setIfInBounds_toArray, List.set_cons_zero, List.set_cons_succ]) | skip)) | (refine wp_storeN M _ _ _ rfl _ rfl (by (repeat (first | exact Pick.head | apply Pick.tail)); done) (fun w => ⟨by first | (simp [go_sem]; done) | (simp [go_sem]; rfl), by first | (simp [go_sem]; done) | (simp [go_sem]; rfl)⟩) _ rfl (by rfl) (by rfl) ?_; clear M; intro w' M; (try simp only [] at M); (first | ((with_reducible refine fastK Tryd.prog rfl ?_); go_big_move) | ((with_reducible refine fastS Tryd.prog rfl ?_); go_big_move; (with_reducible show wpStill _ _ _ _ _ _)) | (with_reducible refine fastN rfl ?_) | (with_reducible refine fastSN rfl ?_) | (simp only [Act.put, List.setIfInBounds_toArray, List.set_cons_zero, List.set_cons_succ]) | skip))) | ((with_reducible refine on_box ?_); refine wp_box M _ _ rfl _ (by first | exact CellsOf.agg _ | exact CellsOf.int _ _ | exact CellsOf.str _ | exact CellsOf.bool _ | exact CellsOf.slice _ _ _ | exact CellsOf.pointer _) ?_; clear M; intro g w' M; (first | ((with_reducible refine fastK Tryd.prog rfl ?_); go_big_move) | ((with_reducible refine fastS Tryd.prog rfl ?_); go_big_move; (with_reducible show wpStill _ _ _ _ _ _)) | (with_reducible refine fastN rfl ?_) | (with_reducible refine fastSN rfl ?_) | (simp only [Act.put, List.setIfInBounds_toArray, List.set_cons_zero, List.set_cons_succ]) | skip)) | ((with_reducible refine on_alloc ?_); refine wp_alloc M _ rfl _ (by simp [go_sem]; rfl) _ (by first | exact CellsOf.agg _ | exact CellsOf.int _ _ | exact CellsOf.str _ | exact CellsOf.bool _ | exact CellsOf.slice _ _ _ | exact CellsOf.pointer _) ?_; clear M; intro g w' M; (first | ((with_reducible refine fastK Tryd.prog rfl ?_); go_big_move) | ((with_reducible refine fastS Tryd.prog rfl ?_); go_big_move; (with_reducible show wpStill _ _ _ _ _ _)) | (with_reducible refine fastN rfl ?_) | (with_reducible refine fastSN rfl ?_) | (simp only [Act.put, List.setIfInBounds_toArray, List.set_cons_zero, List.set_cons_succ]) | skip))) | go_values | go_skip | go_guarded | go_step | go_upon))
            exact ⟨⟨k + 1, 16 * m + (c.toNat - 48), by omega, by go_num, by go_num, HN⟩, by simp [intOf]; omega⟩
          · have hd0 : ¬ (48 ≤ (c.toNat : Int) ∧ (c.toNat : Int) ≤ 57) := by omega
            by_cases hlet : 97 ≤ c.toNat ∧ c.toNat ≤ 102
            · obtain ⟨h0, h1⟩ := hlet
              have hlv : lowVal c = some (c.toNat - 87) := by unfold lowVal; rw [if_neg hdig, if_pos ⟨h0, h1⟩]
              have HN : Hid (16 * m + (c.toNat - 87) < 16 ^ (k + 1) ∧ valFrom lowVal 0 (name.drop ahead.length) = valFrom lowVal (16 * m + (c.toNat - 87)) ((name.drop ahead.length).drop (k + 1))) := Lib.hid ⟨by rw [Nat.pow_succ]; omega, by rw [hv]; simp only [valFrom, hlv]⟩
              have g1 : decide (48 ≤ (c.toNat : Int)) = true := by simp; omega
              have g2 : decide ((c.toNat : Int) ≤ 57) = false := by simp; omega
              have g3 : decide (97 ≤ (c.toNat : Int)) = true := by simp; omega
              have g4 : decide ((c.toNat : Int) ≤ 102) = true := by simp; omega
              clear hv hlv hm hdig hd0
              (try dsimp only); (repeat (first | (first | ((with_reducible refine on_index ?_); refine wp_indexS _ _ _ rfl Tryd.underlying9 _ rfl _ (ahead.length + k) (by first | rfl | (simp; done)) c HC.out ?_; (first | ((with_reducible refine fastK Tryd.prog rfl ?_); go_big_move) | ((with_reducible refine fastS Tryd.prog rfl ?_); go_big_move; (with_reducible show wpStill _ _ _ _ _ _)) | (with_reducible refine fastN rfl ?_) | (with_reducible refine fastSN rfl ?_) | (simp only [Act.put, List.setIfInBounds_toArray, List.set_cons_zero, List.set_cons_succ]) | skip)) | ((with_reducible refine wl_g ?_); first | go_big_want | go_skip | ((with_reducible refine wl_off (by kernel_rfl) ?_); (first | ((with_reducible refine fastK Tryd.prog rfl ?_); go_big_move) | ((with_reducible refine fastS Tryd.prog rfl ?_); go_big_move; (with_reducible show wpStill _ _ _ _ _ _)) | (with_reducible refine fastN rfl ?_) | (with_reducible refine fastSN rfl ?_) | (simp only [Act.put, List.setIfInBounds_toArray, List.set_cons_zero, List.set_cons_succ]) | skip))) | ((with_reducible refine on_load ?_); first | (refine wp_load1 M _ _ rfl _ _ rfl (by (repeat (first | exact Pick.head | apply Pick.tail)); done) (fun w => ⟨by first | (simp [go_sem]; done) | (simp [go_sem]; rfl), by first | (simp [go_sem]; done) | (simp [go_sem]; rfl)⟩) _ (by rfl) ?_; (first | ((with_reducible refine fastK Tryd.prog rfl ?_); go_big_move) | ((with_reducible refine fastS Tryd.prog rfl ?_); go_big_move; (with_reducible show wpStill _ _ _ _ _ _)) | (with_reducible refine fastN rfl ?_) | (with_reducible refine fastSN rfl ?_) | (simp only [Act.put, List.setIfInBounds_toArray, List.set_cons_zero, List.set_cons_succ]) | skip)) | (refine wp_loadN M _ _ rfl _ rfl (by (repeat (first | exact Pick.head | apply Pick.tail)); done) (fun w => ⟨by first | (simp [go_sem]; done) | (simp [go_sem]; rfl), by first | (simp [go_sem]; done) | (simp [go_sem]; rfl)⟩) ?_; (first | ((with_reducible refine fastK Tryd.prog rfl ?_); go_big_move) | ((with_reducible refine fastS Tryd.prog rfl ?_); go_big_move; (with_reducible show wpStill _ _ _ _ _ _)) | (with_reducible refine fastN rfl ?_) | (with_reducible refine fastSN rfl ?_) | (simp only [Act.put, List.setIfInBounds_toArray, List.set_cons_zero, List.set_cons_succ]) | skip))) | ((with_reducible refine on_store ?_); first | (refine wp_store1 M _ _ _ rfl _ _ rfl (by (repeat (first | exact Pick.head | apply Pick.tail)); done) (fun w => ⟨by first | (simp [go_sem]; done) | (simp [go_sem]; rfl), by first | (simp [go_sem]; done) | (simp [go_sem]; rfl)⟩) _ (by first | exact CellsOf.agg _ | exact CellsOf.int _ _ | exact CellsOf.str _ | exact CellsOf.bool _ | exact CellsOf.slice _ _ _ | exact CellsOf.pointer _) (by rfl) (by (simp; done)) ?_; clear M; intro w' M; (try simp only [List.set_cons_zero, List.set_cons_succ] at M); (first | ((with_reducible refine fastK Tryd.prog rfl ?_); go_big_move) | ((with_reducible refine fastS Tryd.prog rfl ?_); go_big_move; (with_reducible show wpStill _ _ _ _ _ _)) | (with_reducible refine fastN rfl ?_) | (with_reducible refine fastSN rfl ?_) | (simp only [Act.put, List.setIfInBounds_toArray, List.set_cons_zero, List.set_cons_succ]) | skip)) | (refine wp_storeN M _ _ _ rfl _ rfl (by (repeat (first | exact Pick.head | apply Pick.tail)); done) (fun w => ⟨by first | (simp [go_sem]; done) | (simp [go_sem]; rfl), by first | (simp [go_sem]; done) | (simp [go_sem]; rfl)⟩) _ rfl (by rfl) (by rfl) ?_; clear M; intro w' M; (try simp only [] at M); (first | ((with_reducible refine fastK Tryd.prog rfl ?_); go_big_move) | ((with_reducible refine fastS Tryd.prog rfl ?_); go_big_move; (with_reducible show wpStill _ _ _ _ _ _)) | (with_reducible refine fastN rfl ?_) | (with_reducible refine fastSN rfl ?_) | (simp only [Act.put, List.setIfInBounds_toArray, List.set_cons_zero, List.set_cons_succ]) | skip))) | ((with_reducible refine on_box ?_); refine wp_box M _ _ rfl _ (by first | exact CellsOf.agg _ | exact CellsOf.int _ _ | exact CellsOf.str _ | exact CellsOf.bool _ | exact CellsOf.slice _ _ _ | exact CellsOf.pointer _) ?_; clear M; intro g w' M; (first | ((with_reducible refine fastK Tryd.prog rfl ?_); go_big_move) | ((with_reducible refine fastS Tryd.prog rfl ?_); go_big_move; (with_reducible show wpStill _ _ _ _ _ _)) | (with_reducible refine fastN rfl ?_) | (with_reducible refine fastSN rfl ?_) | (simp only [Act.put, List.setIfInBounds_toArray, List.set_cons_zero, List.set_cons_succ]) | skip)) | ((with_reducible refine on_alloc ?_); refine wp_alloc M _ rfl _ (by simp [go_sem]; rfl) _ (by first | exact CellsOf.agg _ | exact CellsOf.int _ _ | exact CellsOf.str _ | exact CellsOf.bool _ | exact CellsOf.slice _ _ _ | exact CellsOf.pointer _) ?_; clear M; intro g w' M; (first | ((with_reducible refine fastK Tryd.prog rfl ?_); go_big_move) | ((with_reducible refine fastS Tryd.prog rfl ?_); go_big_move; (with_reducible show wpStill _ _ _ _ _ _)) | (with_reducible refine fastN rfl ?_) | (with_reducible refine fastSN rfl ?_) | (simp only [Act.put, List.setIfInBounds_toArray, List.set_cons_zero, List.set_cons_succ]) | skip))) | go_values | go_skip | go_guarded | go_step | go_upon))
              exact ⟨⟨k + 1, 16 * m + (c.toNat - 87), by omega, by go_num, by go_num, HN⟩, by simp [intOf]; omega⟩
            · have hlv := low_none hdig hlet
              have HZ : Hid (numbR ahead name = (0, false)) := Lib.hid (by rw [HR.out, hv]; simp only [valFrom, hlv])
              clear hv hlv hm
              by_cases c1 : c.toNat < 48
              · have g1 : decide (48 ≤ (c.toNat : Int)) = false := by simp; omega
                have g3 : decide (97 ≤ (c.toNat : Int)) = false := by simp; omega
                clear hdig hlet hd0
                (try dsimp only); (repeat (first | (first | ((with_reducible refine on_index ?_); refine wp_indexS _ _ _ rfl Tryd.underlying9 _ rfl _ (ahead.length + k) (by first | rfl | (simp; done)) c HC.out ?_; (first | ((with_reducible refine fastK Tryd.prog rfl ?_); go_big_move) | ((with_reducible refine fastS Tryd.prog rfl ?_); go_big_move; (with_reducible show wpStill _ _ _ _ _ _)) | (with_reducible refine fastN rfl ?_) | (with_reducible refine fastSN rfl ?_) | (simp only [Act.put, List.setIfInBounds_toArray, List.set_cons_zero, List.set_cons_succ]) | skip)) | ((with_reducible refine wl_g ?_); first | go_big_want | go_skip | ((with_reducible refine wl_off (by kernel_rfl) ?_); (first | ((with_reducible refine fastK Tryd.prog rfl ?_); go_big_move) | ((with_reducible refine fastS Tryd.prog rfl ?_); go_big_move; (with_reducible show wpStill _ _ _ _ _ _)) | (with_reducible refine fastN rfl ?_) | (with_reducible refine fastSN rfl ?_) | (simp only [Act.put, List.setIfInBounds_toArray, List.set_cons_zero, List.set_cons_succ]) | skip))) | ((with_reducible refine on_load ?_); first | (refine wp_load1 M _ _ rfl _ _ rfl (by (repeat (first | exact Pick.head | apply Pick.tail)); done) (fun w => ⟨by first | (simp [go_sem]; done) | (simp [go_sem]; rfl), by first | (simp [go_sem]; done) | (simp [go_sem]; rfl)⟩) _ (by rfl) ?_; (first | ((with_reducible refine fastK Tryd.prog rfl ?_); go_big_move) | ((with_reducible refine fastS Tryd.prog rfl ?_); go_big_move; (with_reducible show wpStill _ _ _ _ _ _)) | (with_reducible refine fastN rfl ?_) | (with_reducible refine fastSN rfl ?_) | (simp only [Act.put, List.setIfInBounds_toArray, List.set_cons_zero, List.set_cons_succ]) | skip)) | (refine wp_loadN M _ _ rfl _ rfl (by (repeat (first | exact Pick.head | apply Pick.tail)); done) (fun w => ⟨by first | (simp [go_sem]; done) | (simp [go_sem]; rfl), by first | (simp [go_sem]; done) | (simp [go_sem]; rfl)⟩) ?_; (first | ((with_reducible refine fastK Tryd.prog rfl ?_); go_big_move) | ((with_reducible refine fastS Tryd.prog rfl ?_); go_big_move; (with_reducible show wpStill _ _ _ _ _ _)) | (with_reducible refine fastN rfl ?_) | (with_reducible refine fastSN rfl ?_) | (simp only [Act.put, List.setIfInBounds_toArray, List.set_cons_zero, List.set_cons_succ]) | skip))) | ((with_reducible refine on_store ?_); first | (refine wp_store1 M _ _ _ rfl _ _ rfl (by (repeat (first | exact Pick.head | apply Pick.tail)); done) (fun w => ⟨by first | (simp [go_sem]; done) | (simp [go_sem]; rfl), by first | (simp [go_sem]; done) | (simp [go_sem]; rfl)⟩) _ (by first | exact CellsOf.agg _ | exact CellsOf.int _ _ | exact CellsOf.str _ | exact CellsOf.bool _ | exact CellsOf.slice _ _ _ | exact CellsOf.pointer _) (by rfl) (by (simp; done)) ?_; clear M; intro w' M; (try simp only [List.set_cons_zero, List.set_cons_succ] at M); (first | ((with_reducible refine fastK Tryd.prog rfl ?_); go_big_move) | ((with_reducible refine fastS Tryd.prog rfl ?_); go_big_move; (with_reducible show wpStill _ _ _ _ _ _)) | (with_reducible refine fastN rfl ?_) | (with_reducible refine fastSN rfl ?_) | (simp only [Act.put, List.setIfInBounds_toArray, List.set_cons_zero, List.set_cons_succ]) | skip)) | (refine wp_storeN M _ _ _ rfl _ rfl (by (repeat (first | exact Pick.head | apply Pick.tail)); done) (fun w => ⟨by first | (simp [go_sem]; done) | (simp [go_sem]; rfl), by first | (simp [go_sem]; done) | (simp [go_sem]; rfl)⟩) _ rfl (by rfl) (by rfl) ?_; clear M; intro w' M; (try simp only [] at M); (first | ((with_reducible refine fastK Tryd.prog rfl ?_); go_big_move) | ((with_reducible refine fastS Tryd.prog rfl ?_); go_big_move; (with_reducible show wpStill _ _ _ _ _ _)) | (with_reducible refine fastN rfl ?_) | (with_reducible refine fastSN rfl ?_) | (simp only [Act.put, List.setIfInBounds_toArray, List.set_cons_zero, List.set_cons_succ]) | skip))) | ((with_reducible refine on_box ?_); refine wp_box M _ _ rfl _ (by first | exact CellsOf.agg _ | exact CellsOf.int _ _ | exact CellsOf.str _ | exact CellsOf.bool _ | exact CellsOf.slice _ _ _ | exact CellsOf.pointer _) ?_; clear M; intro g w' M; (first | ((with_reducible refine fastK Tryd.prog rfl ?_); go_big_move) | ((with_reducible refine fastS Tryd.prog rfl ?_); go_big_move; (with_reducible show wpStill _ _ _ _ _ _)) | (with_reducible refine fastN rfl ?_) | (with_reducible refine fastSN rfl ?_) | (simp only [Act.put, List.setIfInBounds_toArray, List.set_cons_zero, List.set_cons_succ]) | skip)) | ((with_reducible refine on_alloc ?_); refine wp_alloc M _ rfl _ (by simp [go_sem]; rfl) _ (by first | exact CellsOf.agg _ | exact CellsOf.int _ _ | exact CellsOf.str _ | exact CellsOf.bool _ | exact CellsOf.slice _ _ _ | exact CellsOf.pointer _) ?_; clear M; intro g w' M; (first | ((with_reducible refine fastK Tryd.prog rfl ?_); go_big_move) | ((with_reducible refine fastS Tryd.prog rfl ?_); go_big_move; (with_reducible show wpStill _ _ _ _ _ _)) | (with_reducible refine fastN rfl ?_) | (with_reducible refine fastSN rfl ?_) | (simp only [Act.put, List.setIfInBounds_toArray, List.set_cons_zero, List.set_cons_succ]) | skip))) | go_values | go_skip | go_guarded | go_step | go_upon))
                (try rw [Exit.noGoto_ret])
                exact ret_m2 rfl (Out.tmp rfl) (Out.tmp rfl) rfl ⟨by rw [HZ.out]; rfl, rfl⟩
              · have g1 : decide (48 ≤ (c.toNat : Int)) = true := by simp; omega
                have g2 : decide ((c.toNat : Int) ≤ 57) = false := by simp; omega
                by_cases c2 : c.toNat < 97
                · have g3 : decide (97 ≤ (c.toNat : Int)) = false := by simp; omega
                  clear hdig hlet hd0
                  (try dsimp only); (repeat (first | (first | ((with_reducible refine on_index ?_); refine wp_indexS _ _ _ rfl Tryd.underlying9 _ rfl _ (ahead.length + k) (by first | rfl | (simp; done)) c HC.out ?_; (first | ((with_reducible refine fastK Tryd.prog rfl ?_); go_big_move) | ((with_reducible refine fastS Tryd.prog rfl ?_); go_big_move; (with_reducible show wpStill _ _ _ _ _ _)) | (with_reducible refine fastN rfl ?_) | (with_reducible refine fastSN rfl ?_) | (simp only [Act.put, List.setIfInBounds_toArray, List.set_cons_zero, List.set_cons_succ]) | skip)) | ((with_reducible refine wl_g ?_); first | go_big_want | go_skip | ((with_reducible refine wl_off (by kernel_rfl) ?_); (first | ((with_reducible refine fastK Tryd.prog rfl ?_); go_big_move) | ((with_reducible refine fastS Tryd.prog rfl ?_); go_big_move; (with_reducible show wpStill _ _ _ _ _ _)) | (with_reducible refine fastN rfl ?_) | (with_reducible refine fastSN rfl ?_) | (simp only [Act.put, List.setIfInBounds_toArray, List.set_cons_zero, List.set_cons_succ]) | skip))) | ((with_reducible refine on_load ?_); first | (refine wp_load1 M _ _ rfl _ _ rfl (by (repeat (first | exact Pick.head | apply Pick.tail)); done) (fun w => ⟨by first | (simp [go_sem]; done) | (simp [go_sem]; rfl), by first | (simp [go_sem]; done) | (simp [go_sem]; rfl)⟩) _ (by rfl) ?_; (first | ((with_reducible refine fastK Tryd.prog rfl ?_); go_big_move) | ((with_reducible refine fastS Tryd.prog rfl ?_); go_big_move; (with_reducible show wpStill _ _ _ _ _ _)) | (with_reducible refine fastN rfl ?_) | (with_reducible refine fastSN rfl ?_) | (simp only [Act.put, List.setIfInBounds_toArray, List.set_cons_zero, List.set_cons_succ]) | skip)) | (refine wp_loadN M _ _ rfl _ rfl (by (repeat (first | exact Pick.head | apply Pick.tail)); done) (fun w => ⟨by first | (simp [go_sem]; done) | (simp [go_sem]; rfl), by first | (simp [go_sem]; done) | (simp [go_sem]; rfl)⟩) ?_; (first | ((with_reducible refine fastK Tryd.prog rfl ?_); go_big_move) | ((with_reducible refine fastS Tryd.prog rfl ?_); go_big_move; (with_reducible show wpStill _ _ _ _ _ _)) | (with_reducible refine fastN rfl ?_) | (with_reducible refine fastSN rfl ?_) | (simp only [Act.put, List.setIfInBounds_toArray, List.set_cons_zero, List.set_cons_succ]) | skip))) | ((with_reducible refine on_store ?_); first | (refine wp_store1 M _ _ _ rfl _ _ rfl (by (repeat (first | exact Pick.head | apply Pick.tail)); done) (fun w => ⟨by first | (simp [go_sem]; done) | (simp [go_sem]; rfl), by first | (simp [go_sem]; done) | (simp [go_sem]; rfl)⟩) _ (by first | exact CellsOf.agg _ | exact CellsOf.int _ _ | exact CellsOf.str _ | exact CellsOf.bool _ | exact CellsOf.slice _ _ _ | exact CellsOf.pointer _) (by rfl) (by (simp; done)) ?_; clear M; intro w' M; (try simp only [List.set_cons_zero, List.set_cons_succ] at M); (first | ((with_reducible refine fastK Tryd.prog rfl ?_); go_big_move) | ((with_reducible refine fastS Tryd.prog rfl ?_); go_big_move; (with_reducible show wpStill _ _ _ _ _ _)) | (with_reducible refine fastN rfl ?_) | (with_reducible refine fastSN rfl ?_) | (simp only [Act.put, List.setIfInBounds_toArray, List.set_cons_zero, List.set_cons_succ]) | skip)) | (refine wp_storeN M _ _ _ rfl _ rfl (by (repeat (first | exact Pick.head | apply Pick.tail)); done) (fun w => ⟨by first | (simp [go_sem]; done) | (simp [go_sem]; rfl), by first | (simp [go_sem]; done) | (simp [go_sem]; rfl)⟩) _ rfl (by rfl) (by rfl) ?_; clear M; intro w' M; (try simp only [] at M); (first | ((with_reducible refine fastK Tryd.prog rfl ?_); go_big_move) | ((with_reducible refine fastS Tryd.prog rfl ?_); go_big_move; (with_reducible show wpStill _ _ _ _ _ _)) | (with_reducible refine fastN rfl ?_) | (with_reducible refine fastSN rfl ?_) | (simp only [Act.put, List.setIfInBounds_toArray, List.set_cons_zero, List.set_cons_succ]) | skip))) | ((with_reducible refine on_box ?_); refine wp_box M _ _ rfl _ (by first | exact CellsOf.agg _ | exact CellsOf.int _ _ | exact CellsOf.str _ | exact CellsOf.bool _ | exact CellsOf.slice _ _ _ | exact CellsOf.pointer _) ?_; clear M; intro g w' M; (first | ((with_reducible refine fastK Tryd.prog rfl ?_); go_big_move) | ((with_reducible refine fastS Tryd.prog rfl ?_); go_big_move; (with_reducible show wpStill _ _ _ _ _ _)) | (with_reducible refine fastN rfl ?_) | (with_reducible refine fastSN rfl ?_) | (simp only [Act.put, List.setIfInBounds_toArray, List.set_cons_zero, List.set_cons_succ]) | skip)) | ((with_reducible refine on_alloc ?_); refine wp_alloc M _ rfl _ (by simp [go_sem]; rfl) _ (by first | exact CellsOf.agg _ | exact CellsOf.int _ _ | exact CellsOf.str _ | exact CellsOf.bool _ | exact CellsOf.slice _ _ _ | exact CellsOf.pointer _) ?_; clear M; intro g w' M; (first | ((with_reducible refine fastK Tryd.prog rfl ?_); go_big_move) | ((with_reducible refine fastS Tryd.prog rfl ?_); go_big_move; (with_reducible show wpStill _ _ _ _ _ _)) | (with_reducible refine fastN rfl ?_) | (with_reducible refine fastSN rfl ?_) | (simp only [Act.put, List.setIfInBounds_toArray, List.set_cons_zero, List.set_cons_succ]) | skip))) | go_values | go_skip | go_guarded | go_step | go_upon))
                  (try rw [Exit.noGoto_ret])
                  exact ret_m2 rfl (Out.tmp rfl) (Out.tmp rfl) rfl ⟨by rw [HZ.out]; rfl, rfl⟩
                · have g3 : decide (97 ≤ (c.toNat : Int)) = true := by simp; omega
                  have g4 : decide ((c.toNat : Int) ≤ 102) = false := by simp; omega
                  clear hdig hlet hd0
                  (try dsimp only); (repeat (first | (first | ((with_reducible refine on_index ?_); refine wp_indexS _ _ _ rfl Tryd.underlying9 _ rfl _ (ahead.length + k) (by first | rfl | (simp; done)) c HC.out ?_; (first | ((with_reducible refine fastK Tryd.prog rfl ?_); go_big_move) | ((with_reducible refine fastS Tryd.prog rfl ?_); go_big_move; (with_reducible show wpStill _ _ _ _ _ _)) | (with_reducible refine fastN rfl ?_) | (with_reducible refine fastSN rfl ?_) | (simp only [Act.put, List.setIfInBounds_toArray, List.set_cons_zero, List.set_cons_succ]) | skip)) | ((with_reducible refine wl_g ?_); first | go_big_want | go_skip | ((with_reducible refine wl_off (by kernel_rfl) ?_); (first | ((with_reducible refine fastK Tryd.prog rfl ?_); go_big_move) | ((with_reducible refine fastS Tryd.prog rfl ?_); go_big_move; (with_reducible show wpStill _ _ _ _ _ _)) | (with_reducible refine fastN rfl ?_) | (with_reducible refine fastSN rfl ?_) | (simp only [Act.put, List.setIfInBounds_toArray, List.set_cons_zero, List.set_cons_succ]) | skip))) | ((with_reducible refine on_load ?_); first | (refine wp_load1 M _ _ rfl _ _ rfl (by (repeat (first | exact Pick.head | apply Pick.tail)); done) (fun w => ⟨by first | (simp [go_sem]; done) | (simp [go_sem]; rfl), by first | (simp [go_sem]; done) | (simp [go_sem]; rfl)⟩) _ (by rfl) ?_; (first | ((with_reducible refine fastK Tryd.prog rfl ?_); go_big_move) | ((with_reducible refine fastS Tryd.prog rfl ?_); go_big_move; (with_reducible show wpStill _ _ _ _ _ _)) | (with_reducible refine fastN rfl ?_) | (with_reducible refine fastSN rfl ?_) | (simp only [Act.put, List.setIfInBounds_toArray, List.set_cons_zero, List.set_cons_succ]) | skip)) | (refine wp_loadN M _ _ rfl _ rfl (by (repeat (first | exact Pick.head | apply Pick.tail)); done) (fun w => ⟨by first | (simp [go_sem]; done) | (simp [go_sem]; rfl), by first | (simp [go_sem]; done) | (simp [go_sem]; rfl)⟩) ?_; (first | ((with_reducible refine fastK Tryd.prog rfl ?_); go_big_move) | ((with_reducible refine fastS Tryd.prog rfl ?_); go_big_move; (with_reducible show wpStill _ _ _ _ _ _)) | (with_reducible refine fastN rfl ?_) | (with_reducible refine fastSN rfl ?_) | (simp only [Act.put, List.setIfInBounds_toArray, List.set_cons_zero, List.set_cons_succ]) | skip))) | ((with_reducible refine on_store ?_); first | (refine wp_store1 M _ _ _ rfl _ _ rfl (by (repeat (first | exact Pick.head | apply Pick.tail)); done) (fun w => ⟨by first | (simp [go_sem]; done) | (simp [go_sem]; rfl), by first | (simp [go_sem]; done) | (simp [go_sem]; rfl)⟩) _ (by first | exact CellsOf.agg _ | exact CellsOf.int _ _ | exact CellsOf.str _ | exact CellsOf.bool _ | exact CellsOf.slice _ _ _ | exact CellsOf.pointer _) (by rfl) (by (simp; done)) ?_; clear M; intro w' M; (try simp only [List.set_cons_zero, List.set_cons_succ] at M); (first | ((with_reducible refine fastK Tryd.prog rfl ?_); go_big_move) | ((with_reducible refine fastS Tryd.prog rfl ?_); go_big_move; (with_reducible show wpStill _ _ _ _ _ _)) | (with_reducible refine fastN rfl ?_) | (with_reducible refine fastSN rfl ?_) | (simp only [Act.put, List.setIfInBounds_toArray, List.set_cons_zero, List.set_cons_succ]) | skip)) | (refine wp_storeN M _ _ _ rfl _ rfl (by (repeat (first | exact Pick.head | apply Pick.tail)); done) (fun w => ⟨by first | (simp [go_sem]; done) | (simp [go_sem]; rfl), by first | (simp [go_sem]; done) | (simp [go_sem]; rfl)⟩) _ rfl (by rfl) (by rfl) ?_; clear M; intro w' M; (try simp only [] at M); (first | ((with_reducible refine fastK Tryd.prog rfl ?_); go_big_move) | ((with_reducible refine fastS Tryd.prog rfl ?_); go_big_move; (with_reducible show wpStill _ _ _ _ _ _)) | (with_reducible refine fastN rfl ?_) | (with_reducible refine fastSN rfl ?_) | (simp only [Act.put, List.setIfInBounds_toArray, List.set_cons_zero, List.set_cons_succ]) | skip))) | ((with_reducible refine on_box ?_); refine wp_box M _ _ rfl _ (by first | exact CellsOf.agg _ | exact CellsOf.int _ _ | exact CellsOf.str _ | exact CellsOf.bool _ | exact CellsOf.slice _ _ _ | exact CellsOf.pointer _) ?_; clear M; intro g w' M; (first | ((with_reducible refine fastK Tryd.prog rfl ?_); go_big_move) | ((with_reducible refine fastS Tryd.prog rfl ?_); go_big_move; (with_reducible show wpStill _ _ _ _ _ _)) | (with_reducible refine fastN rfl ?_) | (with_reducible refine fastSN rfl ?_) | (simp only [Act.put, List.setIfInBounds_toArray, List.set_cons_zero, List.set_cons_succ]) | skip)) | ((with_reducible refine on_alloc ?_); refine wp_alloc M _ rfl _ (by simp [go_sem]; rfl) _ (by first | exact CellsOf.agg _ | exact CellsOf.int _ _ | exact CellsOf.str _ | exact CellsOf.bool _ | exact CellsOf.slice _ _ _ | exact CellsOf.pointer _) ?_; clear M; intro g w' M; (first | ((with_reducible refine fastK Tryd.prog rfl ?_); go_big_move) | ((with_reducible refine fastS Tryd.prog rfl ?_); go_big_move; (with_reducible show wpStill _ _ _ _ _ _)) | (with_reducible refine fastN rfl ?_) | (with_reducible refine fastSN rfl ?_) | (simp only [Act.put, List.setIfInBounds_toArray, List.set_cons_zero, List.set_cons_succ]) | skip))) | go_values | go_skip | go_guarded | go_step | go_upon))
                  (try rw [Exit.noGoto_ret])
                  exact ret_m2 rfl (Out.tmp rfl) (Out.tmp rfl) rfl ⟨by rw [HZ.out]; rfl, rfl⟩
        · obtain rfl : k = 16 := by omega
          have hk16 : ¬ ((ahead.length : Int) + 16 < (name.length : Int)) := by omega
          have hd0 : (name.drop ahead.length).drop 16 = [] := List.drop_eq_nil_of_le (by rw [HD.out]; exact Nat.le_refl _)
          rw [hd0] at hv
          have HZ : Hid (numbR ahead name = (m, true)) := Lib.hid (by rw [HR.out, hv]; rfl)
          clear hv hm
          go_wp2
          go_ret2
          exact ⟨by rw [HZ.out]; rfl, rfl⟩
    · have q2 : (((⟨name.toArray⟩ : ByteArray).extract 0 ahead.length).toList == ahead) = false := by rw [Lib.extract_toList]; simp [hp]
      have HZ : Hid (numbR ahead name = (0, false)) := Lib.hid (by unfold numbR; exact if_neg (fun x => hp x.2))
      clear hp
      go_enter Tryd.func26, Tryd.ntmps26
      go_wp2
      go_ret2
      exact ⟨by rw [HZ.out]; rfl, rfl⟩
  · have q1 : ((name.length : Int) != (ahead.length : Int) + 16) = true := by rw [bne_iff_ne]; omega
    have HZ : Hid (numbR ahead name = (0, false)) := Lib.hid (by unfold numbR; exact if_neg (fun x => hl x.1))
    clear hl
    go_enter Tryd.func26, Tryd.ntmps26
    go_wp2
    go_ret2
    exact ⟨by rw [HZ.out]; rfl, rfl⟩
theorem log_numbered (name : List UInt8) (hmax : name.length ≤ 140737488355328) (w : World) :
    Calls Tryd.prog 14 #[str name] w fun e w' => e = .returned (.tuple #[.int .u64 ((numbR logT name).1 : Int), .bool (numbR logT name).2]) ∧ w = w' := by
  have HF := Lib.hid (numbered_any name logT (by decide) hmax w)
  generalize numbR logT name = r at *
  go_enter Tryd.func14, Tryd.ntmps14
  go_wp2_with (go_at_call 26; (with_reducible refine HF.out.mono ?_); rintro e w1 ⟨rfl, rfl⟩)
  go_ret2
  exact ⟨rfl, rfl⟩
theorem tab_numbered (name : List UInt8) (hmax : name.length ≤ 140737488355328) (w : World) :
    Calls Tryd.prog 13 #[str name] w fun e w' => e = .returned (.tuple #[.int .u64 ((numbR tabT name).1 : Int), .bool (numbR tabT name).2]) ∧ w = w' := by
  have HF := Lib.hid (numbered_any name tabT (by decide) hmax w)
  generalize numbR tabT name = r at *
  go_enter Tryd.func13, Tryd.ntmps13
  go_wp2_with (go_at_call 26; (with_reducible refine HF.out.mono ?_); rintro e w1 ⟨rfl, rfl⟩)
  go_ret2
  exact ⟨rfl, rfl⟩
end Go.Proofs.YtmmaddmlfofgbaaDoor
