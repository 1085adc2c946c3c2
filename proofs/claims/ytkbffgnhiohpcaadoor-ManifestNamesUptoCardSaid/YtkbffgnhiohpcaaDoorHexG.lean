/- Names of numbers (layers 5 and 10): written (walk). -/
import Derived.Test.YtkbffgnhiohpcaaDoorHexF2
import Derived.Test.YtkbffgnhiohpcaaDoorShelfN
namespace Go.Proofs.YtkbffgnhiohpcaaDoor
set_option linter.unusedSimpArgs false
set_option linter.unusedVariables false
open Go.RowKit Res

/-- the library's table of places of bits -/
structure Tz (w : World) : Prop where
  cell : w.cell? ⟨5, 15, none⟩ = some (.int .u8 4)
  lt : 5 < w.heap.size
theorem Tz.ext {w w' : World} (h : Tz w) (hX : Ext w w') : Tz w' := ⟨(hX.cell (p := ⟨5, 15, none⟩) h.lt).trans h.cell, Nat.lt_of_lt_of_le h.lt hX.size⟩
theorem formatUint_in (n : Nat) (hn : n < 18446744073709551616) (w : World) (ht : Tz w) :
    Calls Tryd.prog 44 #[.int .u64 n, .int .i64 16] w fun e w' => ∃ L, (L ≤ 16 ∧ n < 16 ^ L) ∧ e = .returned (str (hexDigs L n)) ∧ Ext w w' := by
  have HF := Lib.hid (formatBits_16 n hn w ht.cell ht.lt)
  clear ht
  go_enter Tryd.func44, Tryd.ntmps44
  go_wp2_with (go_at_call 73; (with_reducible refine HF.out.mono ?_); rintro e w1 ⟨L, hL, rfl, hX⟩)
  go_ret
  exact ⟨L, hL, rfl, hX⟩
theorem formatUint (n : Nat) (hn : n < 18446744073709551616) (w : World) (ht : Tz w) :
    Calls Tryd.prog 26 #[.int .u64 n, .int .i64 16] w fun e w' => ∃ L, (L ≤ 16 ∧ n < 16 ^ L) ∧ e = .returned (str (hexDigs L n)) ∧ Ext w w' := by
  have HF := Lib.hid (formatUint_in n hn w ht)
  clear ht
  go_enter Tryd.func26, Tryd.ntmps26
  go_wp2_with (go_at_call 44; (with_reducible refine HF.out.mono ?_); rintro e w1 ⟨L, hL, rfl, hX⟩)
  go_ret
  exact ⟨L, hL, rfl, hX⟩
theorem repeat_zeros (c : Nat) : Lib.repeatL [48] c = List.replicate c 48 := by
  induction c with
  | zero => rfl
  | succ c ih => rw [List.replicate_succ, ← ih]; rfl
theorem zeros (c : Nat) (hc : c ≤ 16) (w : World) : Calls Tryd.prog 27 #[str [48], .int .i64 c] w fun e w' => e = .returned (str (List.replicate c 48)) ∧ Ext w w' :=
  (Tryd.strings_Repeat ⟨#[48]⟩ c w (by omega) (by show 1 * c ≤ _; omega)).mono fun e w' ⟨h1, h2⟩ => ⟨by rw [h1]; exact congrArg (fun l => Ending.returned (str l)) (repeat_zeros c), h2⟩
theorem zeros' (L : Nat) (hL : L ≤ 16) (w : World) : Calls Tryd.prog 27 #[str [48], .int .i64 (16 - (L : Int))] w fun e w' => e = .returned (str (List.replicate (16 - L) 48)) ∧ Ext w w' := by
  have := zeros (16 - L) (by omega) w
  rwa [show (((16 - L : Nat)) : Int) = 16 - (L : Int) by omega] at this
theorem str3 (a b c : List UInt8) : ((⟨a.toArray⟩ : ByteArray) ++ (⟨b.toArray⟩ : ByteArray) ++ (⟨c.toArray⟩ : ByteArray)) = ⟨(a ++ (b ++ c)).toArray⟩ := by simp [ByteArray.mk_append_mk]
set_option maxRecDepth 100000 in
set_option maxHeartbeats 800000 in
theorem named_any (ahead : List UInt8) (ha : ahead.length ≤ 64) (n : Nat) (hn : n < 18446744073709551616) (w : World) (ht : Tz w) :
    Calls Tryd.prog 32 #[str ahead, .int .u64 n] w fun e w' => e = .returned (str (ahead ++ hexDigs 16 n)) ∧ Ext w w' := by
  have HF := Lib.hid (formatUint n hn w ht)
  clear ht
  go_enter Tryd.func32, Tryd.ntmps32
  go_wp2_with (go_at_call 26; (with_reducible refine HF.out.mono ?_); rintro e w1 ⟨L, hL, rfl, hX⟩; (have hl16 := hL.1); (have hlen := hexDigs_length L n); (obtain ⟨ds, hds⟩ : ∃ ds, ds = hexDigs L n := ⟨_, rfl⟩); rw [← hds] at hlen ⊢; (have HD := Lib.hid hds); clear hds)
  have HZ := Lib.hid (fun w => zeros' L hL.1 w)
  have HL := Lib.hid hL
  clear hL
  go_wp2_with (go_at_call 27; (with_reducible refine (HZ.out _).mono ?_); rintro e w2 ⟨rfl, hX2⟩)
  go_ret
  refine ⟨?_, Ext.trans' hX hX2⟩
  have he := hexDigs_zeros (16 - L) L n HL.out.2
  rw [show 16 - L + L = 16 by have := HL.out.1; omega] at he
  rw [he, ← HD.out]
  exact congrArg (fun b => Ending.returned (.string b)) (str3 ahead (List.replicate (16 - L) 48) ds)
abbrev manT : List UInt8 := [109, 97, 110, 105, 102, 101, 115, 116, 45]
abbrev tabT : List UInt8 := [116, 97, 98, 108, 101, 45]
abbrev logT : List UInt8 := [108, 111, 103, 45]
theorem man_any (n : Nat) (hn : n < 18446744073709551616) (w : World) (ht : Tz w) : Calls Tryd.prog 11 #[.int .u64 n] w fun e w' => e = .returned (str (manT ++ hexDigs 16 n)) ∧ Ext w w' := by
  have HF := Lib.hid (named_any manT (by decide) n hn w ht)
  clear ht
  go_enter Tryd.func11, Tryd.ntmps11
  go_wp2_with (go_at_call 32; (with_reducible refine HF.out.mono ?_); rintro e w1 ⟨rfl, hX⟩)
  go_ret
  exact ⟨rfl, hX⟩
theorem tab_any (n : Nat) (hn : n < 18446744073709551616) (w : World) (ht : Tz w) : Calls Tryd.prog 12 #[.int .u64 n] w fun e w' => e = .returned (str (tabT ++ hexDigs 16 n)) ∧ Ext w w' := by
  have HF := Lib.hid (named_any tabT (by decide) n hn w ht)
  clear ht
  go_enter Tryd.func12, Tryd.ntmps12
  go_wp2_with (go_at_call 32; (with_reducible refine HF.out.mono ?_); rintro e w1 ⟨rfl, hX⟩)
  go_ret
  exact ⟨rfl, hX⟩
set_option maxRecDepth 100000 in
set_option maxHeartbeats 800000 in
theorem wal_name (n : Nat) (hn : n < 18446744073709551616) (w : World) (ht : Tz w) :
    Calls Tryd.prog 7 #[.int .u64 n] w fun e w' => e = .returned (str (logT ++ hexDigs 16 n)) ∧ Ext w w' := by
  have HF := Lib.hid (formatUint n hn w ht)
  clear ht
  go_enter Tryd.func7, Tryd.ntmps7
  go_wp2_with (go_at_call 26; (with_reducible refine HF.out.mono ?_); rintro e w1 ⟨L, hL, rfl, hX⟩; (have hl16 := hL.1); (have hlen := hexDigs_length L n); (obtain ⟨ds, hds⟩ : ∃ ds, ds = hexDigs L n := ⟨_, rfl⟩); rw [← hds] at hlen ⊢; (have HD := Lib.hid hds); clear hds)
  have HZ := Lib.hid (fun w => zeros' L hL.1 w)
  have HL := Lib.hid hL
  clear hL
  go_wp2_with (go_at_call 27; (with_reducible refine (HZ.out _).mono ?_); rintro e w2 ⟨rfl, hX2⟩)
  go_ret
  refine ⟨?_, Ext.trans' hX hX2⟩
  have he := hexDigs_zeros (16 - L) L n HL.out.2
  rw [show 16 - L + L = 16 by have := HL.out.1; omega] at he
  rw [he, ← HD.out]
  exact congrArg (fun b => Ending.returned (.string b)) (str3 logT (List.replicate (16 - L) 48) ds)

/-! ## the document's -/
section
variable {P : Program} {S : Nat → Prop} {w0 w : World} {l : List Res} {o : Oper} {a : Act} {K : Act → World → Prop} {Q : Exit → Act → World → Prop}
theorem wp_mkBox (M : Mem S w0 l w) (t e : TypeId) (x y : Operand) (ho : o.op = .makeSlice t x y) (i : TypeInfo) (z : Value) (ht : P.underlying t = some (.slice e)) (hi : P.info? e = some i) (hz : i.zero = some z) (n : Nat) (hx : a.eval x = .int .i64 n) (hy : a.eval y = .int .i64 n) (hc : n * i.size ≤ 16777216) (hb : (i.bytes : Int) * n ≤ 281474976710656)
    (cs : List Value) (hcs : madeCells z.cells (n * i.size) = cs.toArray) (hn : (n : Int) ≤ 9223372036854775807)
    (h : ∀ g w', Mem S w0 (bx g e cs :: l) w' → K (a.put o.dst (.slice (some ⟨g, 0, none⟩) n n)) w') : o.wp P a w K Q := by
  have M' := M.al e cs
  have hr := run_makeSlice (P := P) (w := w) t e i z ht hi hz .i64 .i64 n n (by omega) (by omega) (by simpa using hc) hb hn
  simp only [Int.toNat_natCast] at hr
  rw [hcs] at hr
  unfold Oper.wp execOp
  simp only [ho, hx, hy, Sem.run_bind, hr, Result.andThen_ok, Sem.run_pure]
  exact h _ _ M'
variable {dst : Option Tmp} {t ty : TypeId} {x y : Operand} {pos : String} {after : Array Edge} {gd : Option (Nat × Bool)}
theorem on_mk (h : (Oper.mk dst (.makeSlice t x y) ty pos after gd).wp P a w K Q) : (Oper.mk dst (.makeSlice t x y) ty pos after gd).wp P a w K Q := h
end
def digRow16 (n j : Nat) : List Value := List.replicate (16 - j) (.int .u8 0) ++ (hexDigs j n).map byteV
theorem digRow16_length {n j : Nat} (h : j ≤ 16) : (digRow16 n j).length = 16 := by simp [digRow16, hexDigs_length]; omega
theorem digRow16_step {n j k : Nat} (h : j + k + 1 = 16) : (digRow16 n j).set k (byteV (hexDig (n / 16 ^ j % 16))) = digRow16 n (j + 1) := by
  unfold digRow16
  have e1 : 16 - j = k + 1 := by omega
  have e2 : 16 - (j + 1) = k := by omega
  rw [e1, e2, List.set_append_left _ _ (by simp), List.replicate_succ', List.set_append_right _ _ (by simp), Nat.add_comm j 1, hexDigs_more 1 j n]
  simp [hexDigs]
theorem digRow16_row {n g : Nat} {S : Nat → Prop} {w0 w : World} {t : TypeId} (M : Mem S w0 [bx g t (digRow16 n 16)] w) : Row w 0 w.heap.size 1 (some ⟨g, 0, none⟩) 16 ((hexDigs 16 n).map byteV) := by
  have hb := M.box .head
  refine ⟨by simp [hexDigs_length], fun _ => ⟨g, 0, rfl, Nat.zero_le _, hb.lt, fun i u hi => ?_⟩⟩
  rw [hb.cell]
  unfold digRow16
  simpa using hi
theorem digRow16_zero (n : Nat) : digRow16 n 0 = List.replicate 16 (.int .u8 0) := by simp [digRow16, hexDigs]
def b16 : List UInt8 := [48, 49, 50, 51, 52, 53, 54, 55, 56, 57, 97, 98, 99, 100, 101, 102]
theorem b16_get {d : Nat} (h : d < 16) : b16[d]? = some (hexDig d) := by
  have : ∀ d, d < 16 → b16[d]? = some (hexDig d) := by decide
  exact this d h
set_option maxRecDepth 100000 in
set_option maxHeartbeats 800000 in
theorem digits_any (n : Nat) (hn : n < 18446744073709551616) (w : World) :
    Calls Tryd.prog 31 #[.int .u64 n] w fun e w' => e = .returned (str (hexDigs 16 n)) ∧ Ext w w' := by
  have M := Mem.start w
  have hi : Tryd.prog.info? 5 = some ((Tryd.prog.info? 5).getD default) := by kernel_rfl
  have HI := Lib.hid hi
  clear hi
  go_enter Tryd.func31, Tryd.ntmps31
  (try dsimp only); (repeat (first | (first | ((with_reducible refine on_mk ?_); refine wp_mkBox M _ _ _ _ rfl _ (.int .u8 0) Tryd.underlying88 HI.out (by kernel_rfl) 16 rfl rfl (by decide +kernel) (by decide +kernel) (digRow16 n 0) (by rw [digRow16_zero]; kernel_rfl) (by decide) ?_; clear M; intro g w1 M; (first | ((with_reducible refine fastK Tryd.prog rfl ?_); go_big_move) | ((with_reducible refine fastS Tryd.prog rfl ?_); go_big_move; (with_reducible show wpStill _ _ _ _ _ _)) | (with_reducible refine fastN rfl ?_) | (with_reducible refine fastSN rfl ?_) | (simp only [Act.put, List.setIfInBounds_toArray, List.set_cons_zero, List.set_cons_succ]) | skip)) | ((with_reducible refine on_load ?_); first | (refine wp_load1 M _ _ rfl _ _ rfl (by (repeat (first | exact Pick.head | apply Pick.tail)); done) (fun w => ⟨by first | (simp [go_sem]; done) | (simp [go_sem]; rfl), by first | (simp [go_sem]; done) | (simp [go_sem]; rfl)⟩) _ (by rfl) ?_; (first | ((with_reducible refine fastK Tryd.prog rfl ?_); go_big_move) | ((with_reducible refine fastS Tryd.prog rfl ?_); go_big_move; (with_reducible show wpStill _ _ _ _ _ _)) | (with_reducible refine fastN rfl ?_) | (with_reducible refine fastSN rfl ?_) | (simp only [Act.put, List.setIfInBounds_toArray, List.set_cons_zero, List.set_cons_succ]) | skip)) | (refine wp_loadN M _ _ rfl _ rfl (by (repeat (first | exact Pick.head | apply Pick.tail)); done) (fun w => ⟨by first | (simp [go_sem]; done) | (simp [go_sem]; rfl), by first | (simp [go_sem]; done) | (simp [go_sem]; rfl)⟩) ?_; (first | ((with_reducible refine fastK Tryd.prog rfl ?_); go_big_move) | ((with_reducible refine fastS Tryd.prog rfl ?_); go_big_move; (with_reducible show wpStill _ _ _ _ _ _)) | (with_reducible refine fastN rfl ?_) | (with_reducible refine fastSN rfl ?_) | (simp only [Act.put, List.setIfInBounds_toArray, List.set_cons_zero, List.set_cons_succ]) | skip))) | ((with_reducible refine on_store ?_); first | (refine wp_store1 M _ _ _ rfl _ _ rfl (by (repeat (first | exact Pick.head | apply Pick.tail)); done) (fun w => ⟨by first | (simp [go_sem]; done) | (simp [go_sem]; rfl), by first | (simp [go_sem]; done) | (simp [go_sem]; rfl)⟩) _ (by first | exact CellsOf.agg _ | exact CellsOf.int _ _ | exact CellsOf.str _ | exact CellsOf.bool _ | exact CellsOf.slice _ _ _ | exact CellsOf.pointer _) (by rfl) (by (simp; done)) ?_; clear M; intro w' M; (try simp only [List.set_cons_zero, List.set_cons_succ] at M); (first | ((with_reducible refine fastK Tryd.prog rfl ?_); go_big_move) | ((with_reducible refine fastS Tryd.prog rfl ?_); go_big_move; (with_reducible show wpStill _ _ _ _ _ _)) | (with_reducible refine fastN rfl ?_) | (with_reducible refine fastSN rfl ?_) | (simp only [Act.put, List.setIfInBounds_toArray, List.set_cons_zero, List.set_cons_succ]) | skip)) | (refine wp_storeN M _ _ _ rfl _ rfl (by (repeat (first | exact Pick.head | apply Pick.tail)); done) (fun w => ⟨by first | (simp [go_sem]; done) | (simp [go_sem]; rfl), by first | (simp [go_sem]; done) | (simp [go_sem]; rfl)⟩) _ rfl (by rfl) (by rfl) ?_; clear M; intro w' M; (try simp only [] at M); (first | ((with_reducible refine fastK Tryd.prog rfl ?_); go_big_move) | ((with_reducible refine fastS Tryd.prog rfl ?_); go_big_move; (with_reducible show wpStill _ _ _ _ _ _)) | (with_reducible refine fastN rfl ?_) | (with_reducible refine fastSN rfl ?_) | (simp only [Act.put, List.setIfInBounds_toArray, List.set_cons_zero, List.set_cons_succ]) | skip))) | ((with_reducible refine on_box ?_); refine wp_box M _ _ rfl _ (by first | exact CellsOf.agg _ | exact CellsOf.int _ _ | exact CellsOf.str _ | exact CellsOf.bool _ | exact CellsOf.slice _ _ _ | exact CellsOf.pointer _) ?_; clear M; intro g w' M; (first | ((with_reducible refine fastK Tryd.prog rfl ?_); go_big_move) | ((with_reducible refine fastS Tryd.prog rfl ?_); go_big_move; (with_reducible show wpStill _ _ _ _ _ _)) | (with_reducible refine fastN rfl ?_) | (with_reducible refine fastSN rfl ?_) | (simp only [Act.put, List.setIfInBounds_toArray, List.set_cons_zero, List.set_cons_succ]) | skip)) | ((with_reducible refine on_alloc ?_); refine wp_alloc M _ rfl _ (by simp [go_sem]; rfl) _ (by first | exact CellsOf.agg _ | exact CellsOf.int _ _ | exact CellsOf.str _ | exact CellsOf.bool _ | exact CellsOf.slice _ _ _ | exact CellsOf.pointer _) ?_; clear M; intro g w' M; (first | ((with_reducible refine fastK Tryd.prog rfl ?_); go_big_move) | ((with_reducible refine fastS Tryd.prog rfl ?_); go_big_move; (with_reducible show wpStill _ _ _ _ _ _)) | (with_reducible refine fastN rfl ?_) | (with_reducible refine fastSN rfl ?_) | (simp only [Act.put, List.setIfInBounds_toArray, List.set_cons_zero, List.set_cons_succ]) | skip))) | go_values | go_skip | go_guarded | go_step | go_upon))
  go_loopw [0, 4] (fun u i wr => ∃ (j k : Nat), j + k = 16 ∧ u = .int .u64 ((n / 16 ^ j : Nat) : Int) ∧ i = .int .i64 ((k : Int) - 1) ∧ Mem (· < w.heap.size) w [bx g 5 (digRow16 n j)] wr) (fun _ i _ => (intOf i + 1).toNat)
  case atStart => exact ⟨0, 16, by omega, by simp, rfl, M⟩
  case round =>
    clear M
    obtain ⟨j, k, hjk, rfl, rfl, M⟩ := hrel
    have hU0 : n / 16 ^ j ≤ n := Nat.div_le_self _ _
    have hnext : n / 16 ^ (j + 1) = n / 16 ^ j / 16 := by rw [Nat.div_div_eq_div_mul, Nat.pow_succ]
    rcases k with _ | k
    · obtain rfl : j = 16 := by omega
      clear hnext
      obtain ⟨U, hU⟩ : ∃ U, U = n / 16 ^ 16 := ⟨_, rfl⟩
      rw [← hU] at hU0 ⊢
      clear hU
      (try dsimp only); (repeat (first | (first | ((with_reducible refine on_convert ?_); refine wp_toStr _ _ _ _ rfl Tryd.underlying88 Tryd.underlying5 Tryd.underlying9 rfl (lo := 0) (hi := wr.heap.size) (l := hexDigs 16 n) (digRow16_row M) ?_; (first | ((with_reducible refine fastK Tryd.prog rfl ?_); go_big_move) | ((with_reducible refine fastS Tryd.prog rfl ?_); go_big_move; (with_reducible show wpStill _ _ _ _ _ _)) | (with_reducible refine fastN rfl ?_) | (with_reducible refine fastSN rfl ?_) | (simp only [Act.put, List.setIfInBounds_toArray, List.set_cons_zero, List.set_cons_succ]) | skip)) | ((with_reducible refine on_load ?_); first | (refine wp_load1 M _ _ rfl _ _ rfl (by (repeat (first | exact Pick.head | apply Pick.tail)); done) (fun w => ⟨by first | (simp [go_sem]; done) | (simp [go_sem]; rfl), by first | (simp [go_sem]; done) | (simp [go_sem]; rfl)⟩) _ (by rfl) ?_; (first | ((with_reducible refine fastK Tryd.prog rfl ?_); go_big_move) | ((with_reducible refine fastS Tryd.prog rfl ?_); go_big_move; (with_reducible show wpStill _ _ _ _ _ _)) | (with_reducible refine fastN rfl ?_) | (with_reducible refine fastSN rfl ?_) | (simp only [Act.put, List.setIfInBounds_toArray, List.set_cons_zero, List.set_cons_succ]) | skip)) | (refine wp_loadN M _ _ rfl _ rfl (by (repeat (first | exact Pick.head | apply Pick.tail)); done) (fun w => ⟨by first | (simp [go_sem]; done) | (simp [go_sem]; rfl), by first | (simp [go_sem]; done) | (simp [go_sem]; rfl)⟩) ?_; (first | ((with_reducible refine fastK Tryd.prog rfl ?_); go_big_move) | ((with_reducible refine fastS Tryd.prog rfl ?_); go_big_move; (with_reducible show wpStill _ _ _ _ _ _)) | (with_reducible refine fastN rfl ?_) | (with_reducible refine fastSN rfl ?_) | (simp only [Act.put, List.setIfInBounds_toArray, List.set_cons_zero, List.set_cons_succ]) | skip))) | ((with_reducible refine on_store ?_); first | (refine wp_store1 M _ _ _ rfl _ _ rfl (by (repeat (first | exact Pick.head | apply Pick.tail)); done) (fun w => ⟨by first | (simp [go_sem]; done) | (simp [go_sem]; rfl), by first | (simp [go_sem]; done) | (simp [go_sem]; rfl)⟩) _ (by first | exact CellsOf.agg _ | exact CellsOf.int _ _ | exact CellsOf.str _ | exact CellsOf.bool _ | exact CellsOf.slice _ _ _ | exact CellsOf.pointer _) (by rfl) (by (simp; done)) ?_; clear M; intro w' M; (try simp only [List.set_cons_zero, List.set_cons_succ] at M); (first | ((with_reducible refine fastK Tryd.prog rfl ?_); go_big_move) | ((with_reducible refine fastS Tryd.prog rfl ?_); go_big_move; (with_reducible show wpStill _ _ _ _ _ _)) | (with_reducible refine fastN rfl ?_) | (with_reducible refine fastSN rfl ?_) | (simp only [Act.put, List.setIfInBounds_toArray, List.set_cons_zero, List.set_cons_succ]) | skip)) | (refine wp_storeN M _ _ _ rfl _ rfl (by (repeat (first | exact Pick.head | apply Pick.tail)); done) (fun w => ⟨by first | (simp [go_sem]; done) | (simp [go_sem]; rfl), by first | (simp [go_sem]; done) | (simp [go_sem]; rfl)⟩) _ rfl (by rfl) (by rfl) ?_; clear M; intro w' M; (try simp only [] at M); (first | ((with_reducible refine fastK Tryd.prog rfl ?_); go_big_move) | ((with_reducible refine fastS Tryd.prog rfl ?_); go_big_move; (with_reducible show wpStill _ _ _ _ _ _)) | (with_reducible refine fastN rfl ?_) | (with_reducible refine fastSN rfl ?_) | (simp only [Act.put, List.setIfInBounds_toArray, List.set_cons_zero, List.set_cons_succ]) | skip))) | ((with_reducible refine on_box ?_); refine wp_box M _ _ rfl _ (by first | exact CellsOf.agg _ | exact CellsOf.int _ _ | exact CellsOf.str _ | exact CellsOf.bool _ | exact CellsOf.slice _ _ _ | exact CellsOf.pointer _) ?_; clear M; intro g w' M; (first | ((with_reducible refine fastK Tryd.prog rfl ?_); go_big_move) | ((with_reducible refine fastS Tryd.prog rfl ?_); go_big_move; (with_reducible show wpStill _ _ _ _ _ _)) | (with_reducible refine fastN rfl ?_) | (with_reducible refine fastSN rfl ?_) | (simp only [Act.put, List.setIfInBounds_toArray, List.set_cons_zero, List.set_cons_succ]) | skip)) | ((with_reducible refine on_alloc ?_); refine wp_alloc M _ rfl _ (by simp [go_sem]; rfl) _ (by first | exact CellsOf.agg _ | exact CellsOf.int _ _ | exact CellsOf.str _ | exact CellsOf.bool _ | exact CellsOf.slice _ _ _ | exact CellsOf.pointer _) ?_; clear M; intro g w' M; (first | ((with_reducible refine fastK Tryd.prog rfl ?_); go_big_move) | ((with_reducible refine fastS Tryd.prog rfl ?_); go_big_move; (with_reducible show wpStill _ _ _ _ _ _)) | (with_reducible refine fastN rfl ?_) | (with_reducible refine fastSN rfl ?_) | (simp only [Act.put, List.setIfInBounds_toArray, List.set_cons_zero, List.set_cons_succ]) | skip))) | go_values | go_skip | go_guarded | go_step | go_upon))
      refine ret_m1 rfl (Out.tmp rfl) rfl ⟨rfl, M.ext_of⟩
    · have hset := digRow16_step (n := n) (j := j) (k := k) (by omega)
      obtain ⟨U, hU⟩ : ∃ U, U = n / 16 ^ j := ⟨_, rfl⟩
      rw [← hU] at hU0 hnext hset ⊢
      clear hU
      have hb := b16_get (d := U % 16) (by omega)
      have HSET := Lib.hid hset
      have HNEXT := Lib.hid hnext
      have HB := Lib.hid hb
      clear hset hnext hb
      have hk1 : ((k + 1 : Nat) : Int) - 1 = (k : Int) := by omega
      rw [hk1]
      (try dsimp only); (repeat (first | (first | ((with_reducible refine on_index ?_); refine wp_indexS _ _ _ rfl Tryd.underlying9 _ rfl _ (U % 16) (by first | rfl | (simp; done)) _ HB.out ?_; (first | ((with_reducible refine fastK Tryd.prog rfl ?_); go_big_move) | ((with_reducible refine fastS Tryd.prog rfl ?_); go_big_move; (with_reducible show wpStill _ _ _ _ _ _)) | (with_reducible refine fastN rfl ?_) | (with_reducible refine fastSN rfl ?_) | (simp only [Act.put, List.setIfInBounds_toArray, List.set_cons_zero, List.set_cons_succ]) | skip)) | ((with_reducible refine on_store ?_); refine wp_store1 M _ _ _ rfl _ _ rfl (by (repeat (first | exact Pick.head | apply Pick.tail)); done) (fun w => ⟨by first | (simp [go_sem]; done) | (simp [go_sem]; rfl), by first | (simp [go_sem]; done) | (simp [go_sem]; rfl)⟩) _ (by first | exact CellsOf.agg _ | exact CellsOf.int _ _ | exact CellsOf.str _ | exact CellsOf.bool _ | exact CellsOf.slice _ _ _ | exact CellsOf.pointer _) (by rfl) (by rw [digRow16_length (by omega)]; omega) ?_; clear M; intro w1 M; (replace M : Mem (· < w.heap.size) w [bx g 5 (digRow16 n (j + 1))] w1 := by rw [← HSET.out]; exact M); (first | ((with_reducible refine fastK Tryd.prog rfl ?_); go_big_move) | ((with_reducible refine fastS Tryd.prog rfl ?_); go_big_move; (with_reducible show wpStill _ _ _ _ _ _)) | (with_reducible refine fastN rfl ?_) | (with_reducible refine fastSN rfl ?_) | (simp only [Act.put, List.setIfInBounds_toArray, List.set_cons_zero, List.set_cons_succ]) | skip)) | ((with_reducible refine on_load ?_); first | (refine wp_load1 M _ _ rfl _ _ rfl (by (repeat (first | exact Pick.head | apply Pick.tail)); done) (fun w => ⟨by first | (simp [go_sem]; done) | (simp [go_sem]; rfl), by first | (simp [go_sem]; done) | (simp [go_sem]; rfl)⟩) _ (by rfl) ?_; (first | ((with_reducible refine fastK Tryd.prog rfl ?_); go_big_move) | ((with_reducible refine fastS Tryd.prog rfl ?_); go_big_move; (with_reducible show wpStill _ _ _ _ _ _)) | (with_reducible refine fastN rfl ?_) | (with_reducible refine fastSN rfl ?_) | (simp only [Act.put, List.setIfInBounds_toArray, List.set_cons_zero, List.set_cons_succ]) | skip)) | (refine wp_loadN M _ _ rfl _ rfl (by (repeat (first | exact Pick.head | apply Pick.tail)); done) (fun w => ⟨by first | (simp [go_sem]; done) | (simp [go_sem]; rfl), by first | (simp [go_sem]; done) | (simp [go_sem]; rfl)⟩) ?_; (first | ((with_reducible refine fastK Tryd.prog rfl ?_); go_big_move) | ((with_reducible refine fastS Tryd.prog rfl ?_); go_big_move; (with_reducible show wpStill _ _ _ _ _ _)) | (with_reducible refine fastN rfl ?_) | (with_reducible refine fastSN rfl ?_) | (simp only [Act.put, List.setIfInBounds_toArray, List.set_cons_zero, List.set_cons_succ]) | skip))) | ((with_reducible refine on_store ?_); first | (refine wp_store1 M _ _ _ rfl _ _ rfl (by (repeat (first | exact Pick.head | apply Pick.tail)); done) (fun w => ⟨by first | (simp [go_sem]; done) | (simp [go_sem]; rfl), by first | (simp [go_sem]; done) | (simp [go_sem]; rfl)⟩) _ (by first | exact CellsOf.agg _ | exact CellsOf.int _ _ | exact CellsOf.str _ | exact CellsOf.bool _ | exact CellsOf.slice _ _ _ | exact CellsOf.pointer _) (by rfl) (by (simp; done)) ?_; clear M; intro w' M; (try simp only [List.set_cons_zero, List.set_cons_succ] at M); (first | ((with_reducible refine fastK Tryd.prog rfl ?_); go_big_move) | ((with_reducible refine fastS Tryd.prog rfl ?_); go_big_move; (with_reducible show wpStill _ _ _ _ _ _)) | (with_reducible refine fastN rfl ?_) | (with_reducible refine fastSN rfl ?_) | (simp only [Act.put, List.setIfInBounds_toArray, List.set_cons_zero, List.set_cons_succ]) | skip)) | (refine wp_storeN M _ _ _ rfl _ rfl (by (repeat (first | exact Pick.head | apply Pick.tail)); done) (fun w => ⟨by first | (simp [go_sem]; done) | (simp [go_sem]; rfl), by first | (simp [go_sem]; done) | (simp [go_sem]; rfl)⟩) _ rfl (by rfl) (by rfl) ?_; clear M; intro w' M; (try simp only [] at M); (first | ((with_reducible refine fastK Tryd.prog rfl ?_); go_big_move) | ((with_reducible refine fastS Tryd.prog rfl ?_); go_big_move; (with_reducible show wpStill _ _ _ _ _ _)) | (with_reducible refine fastN rfl ?_) | (with_reducible refine fastSN rfl ?_) | (simp only [Act.put, List.setIfInBounds_toArray, List.set_cons_zero, List.set_cons_succ]) | skip))) | ((with_reducible refine on_box ?_); refine wp_box M _ _ rfl _ (by first | exact CellsOf.agg _ | exact CellsOf.int _ _ | exact CellsOf.str _ | exact CellsOf.bool _ | exact CellsOf.slice _ _ _ | exact CellsOf.pointer _) ?_; clear M; intro g w' M; (first | ((with_reducible refine fastK Tryd.prog rfl ?_); go_big_move) | ((with_reducible refine fastS Tryd.prog rfl ?_); go_big_move; (with_reducible show wpStill _ _ _ _ _ _)) | (with_reducible refine fastN rfl ?_) | (with_reducible refine fastSN rfl ?_) | (simp only [Act.put, List.setIfInBounds_toArray, List.set_cons_zero, List.set_cons_succ]) | skip)) | ((with_reducible refine on_alloc ?_); refine wp_alloc M _ rfl _ (by simp [go_sem]; rfl) _ (by first | exact CellsOf.agg _ | exact CellsOf.int _ _ | exact CellsOf.str _ | exact CellsOf.bool _ | exact CellsOf.slice _ _ _ | exact CellsOf.pointer _) ?_; clear M; intro g w' M; (first | ((with_reducible refine fastK Tryd.prog rfl ?_); go_big_move) | ((with_reducible refine fastS Tryd.prog rfl ?_); go_big_move; (with_reducible show wpStill _ _ _ _ _ _)) | (with_reducible refine fastN rfl ?_) | (with_reducible refine fastSN rfl ?_) | (simp only [Act.put, List.setIfInBounds_toArray, List.set_cons_zero, List.set_cons_succ]) | skip))) | go_values | go_skip | go_guarded | go_step | go_upon))
      exact ⟨⟨j + 1, k, by omega, by rw [HNEXT.out]; rfl, rfl, M⟩, by simp [intOf]⟩
theorem log_ref (n : Nat) (hn : n < 18446744073709551616) (w : World) : Calls Tryd.prog 10 #[.int .u64 n] w fun e w' => e = .returned (str (logT ++ hexDigs 16 n)) ∧ Ext w w' := by
  have HF := Lib.hid (digits_any n hn w)
  (obtain ⟨ds, hds⟩ : ∃ ds, ds = hexDigs 16 n := ⟨_, rfl⟩)
  have hlen : ds.length ≤ 16 := by rw [hds, hexDigs_length]; exact Nat.le_refl _
  rw [← hds] at HF ⊢
  clear hds
  go_enter Tryd.func10, Tryd.ntmps10
  go_wp2_with (go_at_call 31; (with_reducible refine HF.out.mono ?_); rintro e w1 ⟨rfl, hX⟩)
  go_ret
  exact ⟨by simp [ByteArray.mk_append_mk], hX⟩
theorem man_ref (n : Nat) (hn : n < 18446744073709551616) (w : World) : Calls Tryd.prog 17 #[.int .u64 n] w fun e w' => e = .returned (str (manT ++ hexDigs 16 n)) ∧ Ext w w' := by
  have HF := Lib.hid (digits_any n hn w)
  (obtain ⟨ds, hds⟩ : ∃ ds, ds = hexDigs 16 n := ⟨_, rfl⟩)
  have hlen : ds.length ≤ 16 := by rw [hds, hexDigs_length]; exact Nat.le_refl _
  rw [← hds] at HF ⊢
  clear hds
  go_enter Tryd.func17, Tryd.ntmps17
  go_wp2_with (go_at_call 31; (with_reducible refine HF.out.mono ?_); rintro e w1 ⟨rfl, hX⟩)
  go_ret
  exact ⟨by simp [ByteArray.mk_append_mk], hX⟩
theorem tab_ref (n : Nat) (hn : n < 18446744073709551616) (w : World) : Calls Tryd.prog 18 #[.int .u64 n] w fun e w' => e = .returned (str (tabT ++ hexDigs 16 n)) ∧ Ext w w' := by
  have HF := Lib.hid (digits_any n hn w)
  (obtain ⟨ds, hds⟩ : ∃ ds, ds = hexDigs 16 n := ⟨_, rfl⟩)
  have hlen : ds.length ≤ 16 := by rw [hds, hexDigs_length]; exact Nat.le_refl _
  rw [← hds] at HF ⊢
  clear hds
  go_enter Tryd.func18, Tryd.ntmps18
  go_wp2_with (go_at_call 31; (with_reducible refine HF.out.mono ?_); rintro e w1 ⟨rfl, hX⟩)
  go_ret
  exact ⟨by simp [ByteArray.mk_append_mk], hX⟩
end Go.Proofs.YtkbffgnhiohpcaaDoor
