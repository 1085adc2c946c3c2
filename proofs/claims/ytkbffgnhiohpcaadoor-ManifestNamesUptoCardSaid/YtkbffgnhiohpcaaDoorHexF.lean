/- Numbers in digits of sixteen: the library's writer at base 16 (walk). -/
import Derived.Test.YtkbffgnhiohpcaaDoorHexN
import Derived.Test.YtkbffgnhiohpcaaDoorProg
import Derived.Test.YtkbffgnhiohpcaaDoorMem11
import Derived.Laws.BitsLemmas
import Derived.WalkMore
import Derived.IntWalk
namespace Go.Proofs.YtkbffgnhiohpcaaDoor
set_option linter.unusedSimpArgs false
set_option linter.unusedVariables false
open Go.RowKit Res

section
variable {P : Program} {w : World} {o : Oper} {a : Act} {K : Act → World → Prop} {Q : Exit → Act → World → Prop}
/-- a byte of a text -/
theorem wp_indexS (t : TypeId) (x y : Operand) (ho : o.op = .index t x y) (ht : P.underlying t = some .string) (s : ByteArray) (hx : a.eval x = .string s) (k : IntKind) (i : Nat) (hy : a.eval y = .int k i) (c : UInt8) (hc : s.data.toList[i]? = some c)
    (h : K (a.put o.dst (.int .u8 (c.toNat : Int))) w) : o.wp P a w K Q := by
  have hi : i < s.size := by
    have := (List.getElem?_eq_some_iff.1 hc).1
    simpa using this
  have hg : s[i]? = some c := by
    have h1 : s.data.toList[i]? = some s[i] := by
      rw [List.getElem?_eq_getElem (by simpa using hi)]; rfl
    rw [h1] at hc
    rw [getElem?_pos s i hi]
    exact hc
  unfold Oper.wp execOp
  have hu := run_underlying ht w
  simp only [ho, hx, hy, Instr.index, asIntOf, Sem.run_bind, Sem.run_pure, Result.andThen_ok, hu]
  rw [if_pos (by omega), Int.toNat_natCast, hg]
  simp only [Sem.run_bind, Sem.run_pure, Result.andThen_ok]
  exact h
/-- bytes as a text -/
theorem wp_toStr (src dst e : TypeId) (x : Operand) (ho : o.op = .convert src dst x) (hs : P.underlying src = some (.slice e)) (he : P.underlying e = some (.int .u8)) (hd : P.underlying dst = some .string) {A : Option Addr} {n c : Nat} (hx : a.eval x = .slice A n c) {lo hi : Nat} {l : List UInt8} (hr : Row w lo hi 1 A n (l.map byteV))
    (h : K (a.put o.dst (str l)) w) : o.wp P a w K Q := by
  unfold Oper.wp execOp
  simp only [ho, hx, Sem.run_bind, run_string_row w src dst e hs he hd hr c, Sem.run_pure, Result.andThen_ok]
  exact h
/-- the rest of an array of one-cell elements -/
theorem wp_sliceArrL (t e : TypeId) (N : Nat) (x y : Operand) (ho : o.op = .slice t x (some y) none none) (ht : P.underlying t = some (.array N e)) (he : ∀ w, (sizeOf e).run P w = .ok 1 w) {g : Nat} (hx : a.eval x = .pointer (some ⟨g, 0, none⟩)) (kk : IntKind) (k : Nat) (hy : a.eval y = .int kk k) (hk : k < N)
    (h : K (a.put o.dst (.slice (some ⟨g, k, none⟩) (N - k) (N - k))) w) : o.wp P a w K Q := by
  have hu := run_underlying ht w
  have hadd : (⟨g, 0, none⟩ : Addr).add (k * 1) = ⟨g, k, none⟩ := by unfold Addr.add; split <;> simp_all
  unfold Oper.wp execOp
  simp only [ho, hx, hy, Option.map_some, Option.map_none, Instr.sliceAt, Instr.sureAddr, Instr.sliceBounds, Instr.sliceBound, asIntOf, Sem.run_bind, Sem.run_pure, Result.andThen_ok, hu]
  rw [if_pos (by omega)]
  simp only [Sem.run_bind, Sem.run_pure, Result.andThen_ok, he, Int.toNat_natCast]
  rw [if_neg (by omega), hadd]
  exact h
variable {dst : Option Tmp} {t ty t' : TypeId} {x y : Operand} {pos : String} {after : Array Edge} {gd : Option (Nat × Bool)}
theorem on_index (h : (Oper.mk dst (.index t x y) ty pos after gd).wp P a w K Q) : (Oper.mk dst (.index t x y) ty pos after gd).wp P a w K Q := h
theorem on_cut {y z u : Option Operand} (h : (Oper.mk dst (.slice t x y z u) ty pos after gd).wp P a w K Q) : (Oper.mk dst (.slice t x y z u) ty pos after gd).wp P a w K Q := h
theorem on_convert (h : (Oper.mk dst (.convert t t' x) ty pos after gd).wp P a w K Q) : (Oper.mk dst (.convert t t' x) ty pos after gd).wp P a w K Q := h
end

theorem tz64 (w : World) (htab : w.cell? ⟨5, 15, none⟩ = some (.int .u8 4)) : Calls Tryd.prog 118 #[.int .u64 16] w fun e w' => e = .returned (.int .i64 4) ∧ w = w' := by
  have h0 : IntKind.u64.wrap (-16) = 18446744073709551600 := by rw [IntKind.wrap_u64]; decide
  have h1 : bits .and .u64 16 18446744073709551600 = 16 := by decide +kernel
  have h2 : IntKind.u64.wrap 4573923408821661840 = 4573923408821661840 := by rw [IntKind.wrap_u64]; decide
  go_enter Tryd.func118, Tryd.ntmps118
  go_wp2
  go_ret
  exact ⟨rfl, rfl⟩
theorem tz (w : World) (htab : w.cell? ⟨5, 15, none⟩ = some (.int .u8 4)) : Calls Tryd.prog 104 #[.int .u64 16] w fun e w' => e = .returned (.int .i64 4) ∧ w = w' := by
  go_enter Tryd.func104, Tryd.ntmps104
  go_wp2_with (go_at_call 118; (with_reducible refine (tz64 _ htab).mono ?_); rintro e w1 ⟨rfl, rfl⟩)
  go_ret
  exact ⟨rfl, rfl⟩
theorem two_power (w : World) : Calls Tryd.prog 103 #[.int .i64 16] w fun e w' => e = .returned (.bool true) ∧ w = w' := by
  have h1 : bits .and .i64 16 15 = 0 := by decide +kernel
  go_enter Tryd.func103, Tryd.ntmps103
  go_wp2
  go_ret
  exact ⟨rfl, rfl⟩

/-! ## the digits -/
def b36 : List UInt8 := [48, 49, 50, 51, 52, 53, 54, 55, 56, 57, 97, 98, 99, 100, 101, 102, 103, 104, 105, 106, 107, 108, 109, 110, 111, 112, 113, 114, 115, 116, 117, 118, 119, 120, 121, 122]
theorem b36_get {d : Nat} (h : d < 16) : b36[d]? = some (hexDig d) := by
  have : ∀ d, d < 16 → b36[d]? = some (hexDig d) := by decide
  exact this d h
/-- the writer's row behind j digits -/
def digRow (n j : Nat) : List Value := List.replicate (65 - j) (.int .u8 0) ++ (hexDigs j n).map byteV
theorem digRow_length {n j : Nat} (h : j ≤ 65) : (digRow n j).length = 65 := by simp [digRow, hexDigs_length]; omega
theorem digRow_step {n j k : Nat} (h : j + k + 1 = 65) : (digRow n j).set k (byteV (hexDig (n / 16 ^ j % 16))) = digRow n (j + 1) := by
  unfold digRow
  have e1 : 65 - j = k + 1 := by omega
  have e2 : 65 - (j + 1) = k := by omega
  rw [e1, e2, List.set_append_left _ _ (by simp), List.replicate_succ', List.set_append_right _ _ (by simp), Nat.add_comm j 1, hexDigs_more 1 j n]
  simp [hexDigs]
theorem u64_and15 (n : Nat) (h : n < 18446744073709551616) : bits .and .u64 (n : Int) 15 = ((n % 16 : Nat) : Int) := by
  have h1 := (bits_nat .u64 64 (by decide) (fun n h1 h2 => by rw [IntKind.wrap_u64]; omega) n 15 (by simpa using h) (by decide)).1
  rw [Nat.and_two_pow_sub_one_eq_mod n 4] at h1
  exact h1
end Go.Proofs.YtkbffgnhiohpcaaDoor
