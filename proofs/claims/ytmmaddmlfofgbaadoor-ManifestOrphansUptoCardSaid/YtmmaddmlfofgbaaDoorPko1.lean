/- Parts of this work, one behind the other: Codec, Frame, Take, Take2, Taker, Man, Man2, Man3, Builder, Man4, ManDec, Taker2, Man5, Man6, Man7, Man8, ManDec2. -/
import Derived.Test.YtmmaddmlfofgbaaDoorProg
import Derived.WalkKit
import Derived.WalkLawsBesides
import Derived.WalkSpells
import Derived.Deep.QuietTactic
import Derived.BigQuiet
import Derived.Deep.RegionWith
import Derived.Handy
import Derived.Deep.RegionHeld3
import Derived.Deep.DeepCutAuto
import Derived.Test.YtmmaddmlfofgbaaDoorShelfN
import Derived.BigGuardPart
import Derived.WalkMore
import Derived.Sort.Walk0
import Derived.Lib.Builder
import Derived.Lib.AppendStr
import Derived.Test.YtmmaddmlfofgbaaDoorPko0
/- Numbers and texts as bytes (layer 1): what the program and the reference both compute. -/
namespace Go.Proofs.YtmmaddmlfofgbaaDoor
set_option linter.unusedSimpArgs false
set_option linter.unusedVariables false
open Go.RowKit

/-- a byte of seven bits behind which more come; the last one -/
def hiByte (n : Nat) : UInt8 := UInt8.ofNat (n % 128 + 128)
def loByte (n : Nat) : UInt8 := UInt8.ofNat n

/-- a number as bytes, seven bits each -/
def putUint (n : Nat) : List UInt8 := if n < 128 then [loByte n] else hiByte n :: putUint (n / 128)
termination_by n
decreasing_by omega

theorem putUint_lo {n : Nat} (h : n < 128) : putUint n = [loByte n] := by rw [putUint, if_pos h]
theorem putUint_hi {n : Nat} (h : ¬ n < 128) : putUint n = hiByte n :: putUint (n / 128) := by rw [putUint, if_neg h]

theorem putUint_length (k n : Nat) (h : n < 128 ^ (k + 1)) : (putUint n).length ≤ k + 1 := by
  induction k generalizing n with
  | zero =>
    rw [putUint_lo (by simpa using h)]; simp
  | succ k ih =>
    by_cases h1 : n < 128
    · rw [putUint_lo h1]; simp
    · rw [putUint_hi h1]
      have := ih (n / 128) (by rw [Nat.pow_succ] at h; omega)
      simp; omega
theorem putUint_ten {n : Nat} (h : n < M64) : (putUint n).length ≤ 10 := putUint_length 9 n (by unfold M64 at h; omega)

/-- a text with its length ahead -/
def putText (l : List UInt8) : List UInt8 := putUint l.length ++ l

theorem putText_length {l : List UInt8} (h : l.length ≤ 1099511627776) : (putText l).length ≤ l.length + 10 := by
  rw [putText, List.length_append]
  have := putUint_ten (n := l.length) (by unfold M64; omega)
  omega

end Go.Proofs.YtmmaddmlfofgbaaDoor
/- Frames (layer 2): what the program and the reference both compute. -/
namespace Go.Proofs.YtmmaddmlfofgbaaDoor
set_option linter.unusedSimpArgs false
set_option linter.unusedVariables false
open Go.RowKit

def crcBit (n : Int) : Int := if n % 2 = 1 then bits .xor .u32 (n / 2) 3988292384 else n / 2
def crcBits : Nat → Int → Int | 0, n => n | k + 1, n => crcBit (crcBits k n)
def crcByte (n : Int) (b : UInt8) : Int := crcBits 8 (bits .xor .u32 n (b.toNat : Int))
def crcOf (l : List UInt8) : Int := l.foldl crcByte 4294967295

def U32 (n : Int) : Prop := 0 ≤ n ∧ n ≤ 4294967295
theorem U32.bits (op : BinOp) (a b : Int) : U32 (bits op .u32 a b) := ⟨bits_lo_u32 op a b, bits_hi_u32 op a b⟩
/-- the check sum -/
def crc (l : List UInt8) : Int := bits .xor .u32 IntKind.u32.max (crcOf l)

/-- four bytes, the lowest first -/
def little (n : Int) : List UInt8 := bytesIn [.int .u8 (n % 256), .int .u8 (n / 256 % 256), .int .u8 (n / 65536 % 256), .int .u8 (n / 16777216)]

/-- a frame as bytes -/
def frameRest (kind : UInt8) (load : List UInt8) : List UInt8 := kind :: putText load
def frameBytes (kind : UInt8) (load : List UInt8) : List UInt8 := little (crc (frameRest kind load)) ++ frameRest kind load
theorem little_length (n : Int) : (little n).length = 4 := rfl
end Go.Proofs.YtmmaddmlfofgbaaDoor
/- Numbers and texts read from bytes (layer 1): what the program and the reference both compute. -/
namespace Go.Proofs.YtmmaddmlfofgbaaDoor
set_option linter.unusedSimpArgs false
set_option linter.unusedVariables false
open Go.RowKit

/-- the number with which bytes begin, how many bytes it takes, and what is wrong (0: nothing, 2: more bytes are wanted, 3: the form) -/
def takeGo : List UInt8 → Nat → Nat → Nat × Nat × Nat
  | [], _, _ => (0, 0, 2)
  | b :: l, i, n => if (i = 9 ∧ 1 < b.toNat) ∨ (0 < i ∧ b.toNat = 0) then (0, 0, 3) else if b.toNat < 128 then (n + b.toNat * 128 ^ i, i + 1, 0) else takeGo l (i + 1) (n + b.toNat % 128 * 128 ^ i)
def takeUint (l : List UInt8) : Nat × Nat × Nat := takeGo l 0 0

theorem pow_le9 {k : Nat} (hk : k ≤ 9) : 128 ^ k ≤ 9223372036854775808 := by
  have := Nat.pow_le_pow_right (n := 128) (by decide) hk
  simpa using this
theorem pow_le8 {k : Nat} (hk : k ≤ 8) : 128 ^ k ≤ 72057594037927936 := by
  have := Nat.pow_le_pow_right (n := 128) (by decide) hk
  simpa using this
theorem mul_fits {k x : Nat} (hk : k ≤ 9) (hx : x < 128) (h9 : k = 9 → x ≤ 1) : x * 128 ^ k ≤ 9223372036854775808 := by
  rcases Nat.lt_or_ge k 9 with h | h
  · have h1 := pow_le8 (by omega : k ≤ 8)
    calc x * 128 ^ k ≤ 127 * 72057594037927936 := Nat.mul_le_mul (by omega) h1
      _ ≤ _ := by decide
  · have h1 := pow_le9 hk
    calc x * 128 ^ k ≤ 1 * 9223372036854775808 := Nat.mul_le_mul (h9 (by omega)) h1
      _ ≤ _ := by decide
theorem sum_fits {n k x : Nat} (hk : k ≤ 9) (hn : n < 128 ^ k) (hx : x < 128) (h9 : k = 9 → x ≤ 1) : n + x * 128 ^ k < 18446744073709551616 := by
  have h1 := mul_fits hk hx h9
  have h2 := pow_le9 hk
  omega

theorem takeGo_facts : ∀ (l : List UInt8) (i n : Nat), i ≤ 9 → n < 128 ^ i → (takeGo l i n).1 < M64 ∧ (takeGo l i n).2.1 ≤ l.length + i ∧ (takeGo l i n).2.1 ≤ 10
  | [], i, n, _, _ => by simp [takeGo, M64]
  | b :: l, i, n, hi, hn => by
    unfold takeGo
    split
    · simp [M64]
    · rename_i h
      split
      · rename_i h1
        have := sum_fits hi hn h1 (fun h9 => by omega)
        exact ⟨by unfold M64; exact this, by simp; omega, by simp; omega⟩
      · rename_i h1
        have hi8 : i < 9 := by
          rcases Nat.lt_or_ge i 9 with h2 | h2
          · exact h2
          · exact absurd (Or.inl ⟨by omega, by omega⟩) h
        have h3 : n + b.toNat % 128 * 128 ^ i < 128 ^ (i + 1) := by
          rw [Nat.pow_succ]
          have : b.toNat % 128 * 128 ^ i ≤ 127 * 128 ^ i := Nat.mul_le_mul_right _ (by omega)
          omega
        obtain ⟨a, b, c⟩ := takeGo_facts l (i + 1) (n + b.toNat % 128 * 128 ^ i) (by omega) h3
        exact ⟨a, by simp; omega, c⟩
theorem takeUint_len (l : List UInt8) : (takeUint l).2.1 ≤ l.length := (takeGo_facts l 0 0 (by omega) (by simp)).2.1

end Go.Proofs.YtmmaddmlfofgbaaDoor
/- Texts read from bytes (layer 1): what the program and the reference both compute. -/
namespace Go.Proofs.YtmmaddmlfofgbaaDoor
set_option linter.unusedSimpArgs false
set_option linter.unusedVariables false
open Go.RowKit

theorem ba_extract (l : List UInt8) (a b : Nat) : (⟨l.toArray⟩ : ByteArray).extract a b = ⟨((l.drop a).take (b - a)).toArray⟩ := by
  apply ByteArray.ext
  simp
theorem ba_extract_len (l : List UInt8) (a n : Nat) : (⟨l.toArray⟩ : ByteArray).extract a (a + n) = ⟨((l.drop a).take n).toArray⟩ := by
  rw [ba_extract, Nat.add_sub_cancel_left]
theorem ba_extract_end (l : List UInt8) (a : Nat) : (⟨l.toArray⟩ : ByteArray).extract a l.length = ⟨(l.drop a).toArray⟩ := by
  rw [ba_extract, List.take_of_length_le (by simp)]
attribute [go_sem] ba_extract_end ba_extract_len

def takeText (most : Nat) (l : List UInt8) : List UInt8 × Nat × Nat :=
  if (takeUint l).2.2 ≠ 0 then ([], 0, (takeUint l).2.2) else if most < (takeUint l).1 then ([], 0, 3) else if l.length - (takeUint l).2.1 < (takeUint l).1 then ([], 0, 2)
  else ((l.drop (takeUint l).2.1).take (takeUint l).1, (takeUint l).2.1 + (takeUint l).1, 0)

theorem takeGo_err : ∀ (l : List UInt8) (i n : Nat), (takeGo l i n).2.2 ≤ 3
  | [], _, _ => by simp [takeGo]
  | b :: l, i, n => by
    unfold takeGo
    split
    · simp
    · split
      · simp
      · exact takeGo_err l _ _
theorem takeUint_err (l : List UInt8) : (takeUint l).2.2 ≤ 3 := takeGo_err l 0 0

end Go.Proofs.YtmmaddmlfofgbaaDoor
/- What takes numbers and texts one behind the other: the program's taker (layer 10), the reference's Reader (layer 4). -/
namespace Go.Proofs.YtmmaddmlfofgbaaDoor
set_option linter.unusedSimpArgs false
set_option linter.unusedVariables false
open Go.RowKit

abbrev Rd := List UInt8 × Bool
def readUint (mx : Nat) (st : Rd) : Nat × Rd := if (st.2 || decide ((takeUint st.1).2.2 ≠ 0) || decide (mx < (takeUint st.1).1)) = true then (0, (st.1, true)) else ((takeUint st.1).1, (st.1.drop (takeUint st.1).2.1, false))
def readText (mx : Nat) (st : Rd) : List UInt8 × Rd := if (st.2 || decide ((takeText mx st.1).2.2 ≠ 0)) = true then ([], (st.1, true)) else ((takeText mx st.1).1, (st.1.drop (takeText mx st.1).2.1, false))
def readMany (st : Rd) : Nat × Rd := let r := readUint 4611686018427387904 st; if (r.2.2 || decide (1000 < r.1)) = true then (0, (r.2.1, true)) else (r.1, (r.2.1, false))

theorem takeText_most {mx : Nat} {l : List UInt8} : (takeText mx l).1.length ≤ mx := by
  unfold takeText
  split
  · simp
  · split
    · simp
    · split
      · simp
      · simp; omega
theorem Hid.of {p : Prop} (h : Hid p) : p := h

theorem takeText_len (mx : Nat) (l : List UInt8) : (takeText mx l).2.1 ≤ l.length := by
  have := takeUint_len l
  unfold takeText
  split
  · simp
  · split
    · simp
    · split
      · simp
      · simp; omega
theorem takeText_err (mx : Nat) (l : List UInt8) : (takeText mx l).2.2 ≤ 3 := by
  have := takeUint_err l
  unfold takeText
  split
  · simp; omega
  · split
    · simp
    · split <;> simp

end Go.Proofs.YtmmaddmlfofgbaaDoor
/- Manifests (layer 10): tables and edits that may be. -/
namespace Go.Proofs.YtmmaddmlfofgbaaDoor
set_option linter.unusedSimpArgs false
set_option linter.unusedVariables false
open Go.RowKit

theorem ba_toList (l : List UInt8) : (⟨l.toArray⟩ : ByteArray).toList = l := by rw [Lib.toList_data]
/-- texts in their order -/
def leB (a b : List UInt8) : Bool := Op.bytesLess a b || a == b
def ltB (a b : List UInt8) : Bool := Op.bytesLess a b
theorem run_lss_str {P : Program} (w : World) (t : TypeId) (a b : List UInt8) : (binOp .lss t (str a) (str b)).run P w = .ok (.bool (ltB a b)) w := by
  rw [binOp_string_lss, ba_toList, ba_toList]; rfl
theorem run_geq_str {P : Program} (w : World) (t : TypeId) (a b : List UInt8) : (binOp .geq t (str a) (str b)).run P w = .ok (.bool (!ltB a b)) w := by
  rw [binOp_string_geq, ba_toList, ba_toList]; rfl

structure Table where
  num : Nat
  level : Int
  size : Int
  count : Int
  least : List UInt8
  great : List UInt8
deriving DecidableEq
def Table.cells (t : Table) : List Value := [.int .u64 t.num, .int .i64 t.level, .int .i64 t.size, .int .i64 t.count, str t.least, str t.great]
theorem Table.cells_len (t : Table) : t.cells.length = 6 := rfl
theorem Table.one (t : Table) : ∀ u ∈ t.cells, u.oneCell' = true := by simp [Table.cells, Value.oneCell']
/-- what a machine's words can hold -/
def I64 (n : Int) : Prop := -9223372036854775808 ≤ n ∧ n ≤ 9223372036854775807
structure Table.Ok (t : Table) : Prop where
  num : t.num < M64
  level : I64 t.level
  size : I64 t.size
  count : I64 t.count
  least : t.least.length ≤ 1099511627776
  great : t.great.length ≤ 1099511627776

/-- may a text be a key? -/
def mayKey (l : List UInt8) : Bool := !l.isEmpty && decide (l.length ≤ 96)
theorem mayKey_int (l : List UInt8) : mayKey l = (decide (1 ≤ (l.length : Int)) && decide ((l.length : Int) ≤ 96)) := by
  cases l with
  | nil => simp [mayKey]
  | cons a l =>
    have h : decide (1 ≤ ((a :: l).length : Int)) = true := by simp; omega
    rw [h, mayKey]
    simp
    omega
def Table.may (t : Table) : Bool :=
  decide (1 ≤ (t.num : Int)) && decide ((t.num : Int) ≤ 4611686018427387904) && decide (0 ≤ t.level) && decide (t.level < 4) && decide (1 ≤ t.size) && decide (t.size ≤ 1073741824) && decide (1 ≤ t.count) && decide (t.count ≤ 1073741824) &&
    mayKey t.least && mayKey t.great && leB t.least t.great

set_option maxRecDepth 100000 in
set_option maxHeartbeats 800000 in
theorem mayTable_ref (t : Table) (h : t.Ok) (w : World) :
    Calls Tryd.prog 27 #[.agg t.cells.toArray] w fun e w' => e = .returned (.bool t.may) ∧ Ext w w' := by
  obtain ⟨h1, h2, h3, h4, h5, h6⟩ := h
  obtain ⟨n, lv, sz, ct, a, b⟩ := t
  dsimp only [Table.cells] at *
  unfold I64 M64 at *
  have HM : Hid (∀ x : Bool, x = (decide (1 ≤ (n : Int)) && decide ((n : Int) ≤ 4611686018427387904) && decide (0 ≤ lv) && decide (lv < 4) && decide (1 ≤ sz) && decide (sz ≤ 1073741824) && decide (1 ≤ ct) && decide (ct ≤ 1073741824) &&
      (decide (1 ≤ (a.length : Int)) && decide ((a.length : Int) ≤ 96)) && (decide (1 ≤ (b.length : Int)) && decide ((b.length : Int) ≤ 96)) && leB a b) →
    x = (⟨n, lv, sz, ct, a, b⟩ : Table).may) := fun x hx => by rw [hx, Table.may, mayKey_int, mayKey_int]
  go_enter Tryd.func27, Tryd.ntmps27
  (iterate 12 (first | go_values | go_skip | go_guarded | go_step | go_upon | go_in | go_back)); simp only [List.append_eq, List.cons_append, List.nil_append]
  go_wp2
  all_goals go_ret
  all_goals refine ⟨congrArg (fun b => Ending.returned (.bool b)) (HM.out _ ?_), by (repeat (first | exact Below.refl _ _ | refine Ext.trans' ?_ (Ext.al _ _) | refine Ext.trans' ?_ (Ext.dr _) | refine Ext.trans' ?_ (by assumption)))⟩
  all_goals (simp [*, leB] <;> (intros; omega))
end Go.Proofs.YtmmaddmlfofgbaaDoor
/- Manifests (layer 10): may an edit be? -/
namespace Go.Proofs.YtmmaddmlfofgbaaDoor
set_option linter.unusedSimpArgs false
set_option linter.unusedVariables false
open Go.RowKit

def u64C (n : Nat) : List Value := [.int .u64 (n : Int)]
theorem u64C_len (n : Nat) : (u64C n).length = 1 := rfl
def mayDrop (n : Nat) : Bool := !(decide ((n : Int) < 1) || decide (4611686018427387904 < (n : Int)))

/-- the predicate holds of all / not of the element k -/
theorem all_take_succ {α : Type} {p : α → Bool} {l : List α} {k : Nat} {x : α} (h : (l.take k).all p = true) (hx : l[k]? = some x) (hp : p x = true) : (l.take (k + 1)).all p = true := by
  rw [List.take_add_one, hx]
  simp at h ⊢
  exact ⟨h, hp⟩
theorem all_false {α : Type} {p : α → Bool} {l : List α} {k : Nat} {x : α} (hx : l[k]? = some x) (hp : p x = false) : l.all p = false := by
  rw [List.all_eq_false]
  exact ⟨x, List.mem_of_getElem? hx, by simp [hp]⟩
theorem all_take_all {α : Type} {p : α → Bool} {l : List α} {k : Nat} (h : (l.take k).all p = true) (hk : l.length ≤ k) : l.all p = true := by rwa [List.take_of_length_le hk] at h

structure Edit where
  next : Nat
  seq : Nat
  log : Nat
  add : List Table
  drop : List Nat
deriving DecidableEq
/-- an edit's value -/
def Edit.val (e : Edit) (A A' : Option Addr) (c c' : Nat) : Value := .agg #[.int .u64 e.next, .int .u64 e.seq, .int .u64 e.log, .slice A e.add.length c, .slice A' e.drop.length c']
/-- its numbers fit their words, its lengths a machine -/
structure Edit.Ok (e : Edit) : Prop where
  next : e.next < M64
  seq : e.seq < M64
  log : e.log < M64
  add : ∀ t ∈ e.add, t.Ok
  drop : ∀ n ∈ e.drop, n < M64
  addLen : e.add.length ≤ 1048576
  dropLen : e.drop.length ≤ 1048576
/-- where its rows lie -/
structure EditAt (w : World) (hi : Nat) (e : Edit) (A A' : Option Addr) : Prop where
  add : Row w 0 hi 6 A e.add.length (e.add.flatMap Table.cells)
  drop : Row w 0 hi 1 A' e.drop.length (e.drop.flatMap u64C)
theorem EditAt.ext {w w' : World} {e : Edit} {A A' : Option Addr} (h : EditAt w w.heap.size e A A') (hb : Ext w w') : EditAt w' w'.heap.size e A A' :=
  ⟨(h.add.below hb (Nat.le_refl _)).wide (Nat.le_refl _) hb.size, (h.drop.below hb (Nat.le_refl _)).wide (Nat.le_refl _) hb.size⟩

def Edit.may (e : Edit) : Bool :=
  !(decide (4611686018427387904 < (e.next : Int)) || decide (4611686018427387904 < (e.seq : Int)) || decide (4611686018427387904 < (e.log : Int)) || decide (1000 < (e.add.length : Int)) || decide (1000 < (e.drop.length : Int))) &&
    (e.add.all Table.may && e.drop.all mayDrop)

end Go.Proofs.YtmmaddmlfofgbaaDoor
/- Manifests (layer 10): may an edit be? The walks. -/
namespace Go.Proofs.YtmmaddmlfofgbaaDoor
set_option linter.unusedSimpArgs false
set_option linter.unusedVariables false
open Go.RowKit

set_option maxRecDepth 100000 in
set_option maxHeartbeats 800000 in
theorem editMay_ref (e : Edit) (h : e.Ok) (A A' : Option Addr) (c c' : Nat) (w : World) (hr : EditAt w w.heap.size e A A') :
    Calls Tryd.prog 17 #[e.val A A' c c'] w fun r w' => r = .returned (.bool e.may) ∧ Ext w w' := by
  obtain ⟨h1, h2, h3, h4, h5, h6, h7⟩ := h
  obtain ⟨n, s, g, l, d⟩ := e
  dsimp only [Edit.val] at *
  have HR := Lib.hid (fun w' hb => EditAt.ext (w' := w') hr hb)
  have H4 := Lib.hid h4
  have H5 := Lib.hid h5
  clear hr h4 h5
  unfold M64 at *
  have HM : Hid (∀ x : Bool, x = (!(decide (4611686018427387904 < (n : Int)) || decide (4611686018427387904 < (s : Int)) || decide (4611686018427387904 < (g : Int)) || decide (1000 < (l.length : Int)) || decide (1000 < (d.length : Int))) &&
    (l.all Table.may && d.all mayDrop)) → x = (⟨n, s, g, l, d⟩ : Edit).may) := fun x hx => hx
  go_enter Tryd.func17, Tryd.ntmps17
  go_wp2
  iterate 5 (· (go_ret; refine ⟨congrArg (fun b => Ending.returned (.bool b)) (HM.out _ ?_), by (repeat (first | exact Below.refl _ _ | refine Ext.trans' ?_ (Ext.al _ _) | refine Ext.trans' ?_ (Ext.dr _) | refine Ext.trans' ?_ (by assumption)))⟩; (simp [*] <;> (intros; omega))))
  have HB : Hid ((decide (4611686018427387904 < (n : Int)) || decide (4611686018427387904 < (s : Int)) || decide (4611686018427387904 < (g : Int)) || decide (1000 < (l.length : Int)) || decide (1000 < (d.length : Int))) = false) := by
    unfold Hid; (first | (simp [*]; done) | (simp [*]; omega))
  (obtain ⟨w0, hw0⟩ : ∃ w0, w0 = World.alloc w (.cells #[.int .u64 n, .int .u64 s, .int .u64 g, .slice A l.length c, .slice A' d.length c'] 39) := ⟨_, rfl⟩); (have hbox_w0 : Box w0 (w).heap.size 39 #[.int .u64 n, .int .u64 s, .int .u64 g, .slice A l.length c, .slice A' d.length c'] := by rw [hw0]; exact Box.new _ _ _); (have hE_w0 : Ext w w0 := by rw [hw0]; exact Ext.al _ _); (have hz_w0 : (w0).heap.size = (w).heap.size + 1 := by rw [hw0]; simp); rw [← hw0]; clear hw0
  have hRl := fun w' hb => (HR.out w' (hE_w0.trans' hb)).add
  have hRd := fun w' hb => (HR.out w' (hE_w0.trans' hb)).drop
  dsimp only at hRl hRd
  have HRL := Lib.hid hRl
  have HRD := Lib.hid hRd
  clear hRl hRd HR
  go_loopw [3] (fun i wr => ∃ k : Nat, k ≤ l.length ∧ i = .int .i64 k ∧ Hid ((l.take k).all Table.may = true) ∧ Ext w0 wr) (fun i _ => l.length - (intOf i).toNat)
  · exact ⟨0, by simp, rfl, by simp [Hid], Below.refl _ _⟩
  · obtain ⟨k, hk, rfl, hall, hE⟩ := hrel
    have a3 := (hbox_w0.ext hE).cell 3
    simp at a3
    by_cases hlt : k < l.length
    · obtain ⟨t, ht⟩ : ∃ t, l[k]? = some t := ⟨l[k], List.getElem?_eq_getElem hlt⟩
      obtain ⟨b, off, rfl, -, hbw, hc⟩ := (HRL.out _ hE).elem Table.cells_len rfl ht
      have hc0 := hc 0 _ rfl
      have hc1 := hc 1 _ rfl
      have hc2 := hc 2 _ rfl
      have hc3 := hc 3 _ rfl
      have hc4 := hc 4 _ rfl
      have hc5 := hc 5 _ rfl
      rw [Nat.add_zero] at hc0
      have hm := mayTable_ref t (H4.out t (List.mem_of_getElem? ht))
      have HMA := Lib.hid (fun h => all_take_succ (p := Table.may) hall.out ht h)
      have HMF := Lib.hid (fun h => all_false (p := Table.may) ht h)
      cases hmay : t.may
      all_goals
        rw [hmay] at hm
        have HM' := Lib.hid hm
        have HMY := Lib.hid hmay
        clear hm hc hmay ht
        obtain ⟨n', lv, sz, ct, a, bb⟩ := t
        dsimp only [Table.cells] at *
        go_wp2_with (refine (HM'.out _).mono ?_; rintro e w1 ⟨rfl, hb⟩)
      · go_ret
        exact ⟨congrArg (fun b => Ending.returned (.bool b)) (HM.out _ (by rw [HMF.out HMY.out]; simp)), hE_w0.trans' (hE.trans' hb)⟩
      · exact ⟨⟨k + 1, by omega, by simp, HMA.out HMY.out, hE.trans' hb⟩, by simp [intOf]; omega⟩
    · have HL := Lib.hid (all_take_all hall.out (by omega))
      clear hall
      go_wp2
      go_loopw [5] (fun i wr => ∃ k : Nat, k ≤ d.length ∧ i = .int .i64 k ∧ Hid ((d.take k).all mayDrop = true) ∧ Ext w0 wr) (fun i _ => d.length - (intOf i).toNat)
      · exact ⟨0, by simp, rfl, by simp [Hid], hE⟩
      · clear a3 hE
        obtain ⟨k, hk, rfl, hall, hE⟩ := hrel
        have a4 := (hbox_w0.ext hE).cell 4
        simp at a4
        by_cases hlt : k < d.length
        · obtain ⟨t, ht⟩ : ∃ t, d[k]? = some t := ⟨d[k], List.getElem?_eq_getElem hlt⟩
          obtain ⟨b, off, rfl, -, hbw, hc⟩ := (HRD.out _ hE).elem u64C_len rfl ht
          have hc0 := hc 0 _ rfl
          rw [Nat.add_zero, Nat.mul_one] at hc0
          have ht64 := H5.out t (List.mem_of_getElem? ht)
          have HMA := Lib.hid (fun h => all_take_succ (p := mayDrop) hall.out ht h)
          have HMF := Lib.hid (fun h => all_false (p := mayDrop) ht h)
          have HD : Hid (mayDrop t = !(decide ((t : Int) < 1) || decide (4611686018427387904 < (t : Int)))) := rfl
          clear hc ht
          go_wp2
          · go_ret
            exact ⟨congrArg (fun b => Ending.returned (.bool b)) (HM.out _ (by rw [HMF.out (by rw [HD.out]; simp [*])]; simp)), hE_w0.trans' hE⟩
          · go_ret
            exact ⟨congrArg (fun b => Ending.returned (.bool b)) (HM.out _ (by rw [HMF.out (by rw [HD.out]; simp [*])]; simp)), hE_w0.trans' hE⟩
          · exact ⟨⟨k + 1, by omega, by simp, HMA.out (by rw [HD.out]; simp; omega), hE⟩, by simp [intOf]; omega⟩
        · go_wp2
          go_ret
          exact ⟨congrArg (fun b => Ending.returned (.bool b)) (HM.out _ (by rw [HB.out, HL.out, all_take_all hall.out (by omega)]; rfl)), hE_w0.trans' hE⟩
end Go.Proofs.YtmmaddmlfofgbaaDoor
/- strings.Builder: the builder that a function itself has made. -/
namespace Go.Proofs.YtmmaddmlfofgbaaDoor
set_option linter.unusedSimpArgs false
set_option linter.unusedVariables false
open Go.RowKit

/-- block b is a builder of this call's own (from B on) that holds the bytes l -/
def Bld (w : World) (B b : Nat) (l : List UInt8) : Prop := Lib.IsBuilder 85 5 B b (Lib.byteCells l) w

theorem Bld.new (w : World) : Bld (w.alloc (.cells #[.pointer none, .slice none 0 0] 85)) w.heap.size w.heap.size [] := Lib.fresh_isBuilder _ _ w

/-- what is neither a builder nor bytes is as it was -/
def Oth (w w' : World) : Prop := ∀ g t cs, t ≠ 85 → t ≠ 5 → Box w g t cs → Box w' g t cs
theorem Oth.trans {a b c : World} (h : Oth a b) (k : Oth b c) : Oth a c := fun g t cs h1 h2 hb => k g t cs h1 h2 (h g t cs h1 h2 hb)
theorem Oth.refl (a : World) : Oth a a := fun _ _ _ _ _ h => h
theorem Oth.ext {a b : World} (h : Ext a b) : Oth a b := fun _ _ _ _ _ hb => hb.ext h
theorem Box.type_eq {w : World} {g t t' : TypeId} {cs cs' : Array Value} (h : Box w g t cs) (h' : Box w g t' cs') : t = t' := by
  unfold Box at h h'
  rw [h] at h'
  injection h' with h'
  injection h' with _ ht
theorem Oth.setCell {w : World} {b i : Nat} {cs : Array Value} {t : TypeId} (h : Box w b t cs) (ht : t = 85 ∨ t = 5) (u : Value) : Oth w (w.setCell ⟨b, i, none⟩ u) := fun g t' cs' h1 h2 hb => by
  refine hb.far (p := ⟨b, i, none⟩) ?_ u
  rintro rfl
  have := hb.type_eq h
  rcases ht with ht | ht
  · exact h1 (this.trans ht)
  · exact h2 (this.trans ht)

namespace Bld
variable {w w' : World} {B b : Nat} {l : List UInt8}
theorem lt (h : Bld w B b l) : b < w.heap.size := by rcases h with h | h <;> exact h.lt
theorem at_ {T e : TypeId} {p : Value} {bs : List Value} (h : Lib.BuilderAt T e B b p bs w) (hk : ∀ g, B ≤ g → g < w.heap.size → w'.heap[g]? = w.heap[g]?) : Lib.BuilderAt T e B b p bs w' := by
  obtain ⟨hB, v, hbk, hown, hne⟩ := h
  refine ⟨hB, v, (hk b hB (Array.getElem?_eq_some_iff.1 hbk).1).trans hbk, ?_, hne⟩
  obtain ⟨h1, h2⟩ := hown
  refine ⟨h1, ?_⟩
  rcases h2 with h2 | ⟨g, cap, cur, hv, hg, hh, r⟩
  · exact .inl h2
  · exact .inr ⟨g, cap, cur, hv, hg, (hk g hg (Array.getElem?_eq_some_iff.1 hh).1).trans hh, r⟩
theorem keep (h : Bld w B b l) (hk : ∀ g, B ≤ g → g < w.heap.size → w'.heap[g]? = w.heap[g]?) : Bld w' B b l := by
  rcases h with h | h
  · exact .inl (at_ h hk)
  · exact .inr (at_ h hk)
theorem ext (h : Bld w B b l) (hb : Ext w w') : Bld w' B b l := h.keep fun g _ h2 => hb.block g h2
theorem alloc (h : Bld w B b l) (o : Obj) : Bld (w.alloc o) B b l := h.ext (Ext.al w o)
theorem drew (h : Bld w B b l) : Bld w.drew B b l := h.ext (Ext.dr w)
end Bld
end Go.Proofs.YtmmaddmlfofgbaaDoor
/- Manifests (layer 10): an edit's bytes. -/
namespace Go.Proofs.YtmmaddmlfofgbaaDoor
set_option linter.unusedSimpArgs false
set_option linter.unusedVariables false
open Go.RowKit

end Go.Proofs.YtmmaddmlfofgbaaDoor
/- What an edit's bytes say (layer 10), as plain functions: the program's way and the document's way agree. No program in sight. -/
namespace Go.Proofs.YtmmaddmlfofgbaaDoor
set_option linter.unusedSimpArgs false
set_option linter.unusedVariables false
open Go.RowKit

/-- a table, with the bounds of its numbers -/
def tableOf (bn bl bs bc : Nat) (st : Rd) : Table × Rd :=
  (⟨(readUint bn st).1, ((readUint bl (readUint bn st).2).1 : Nat), ((readUint bs (readUint bl (readUint bn st).2).2).1 : Nat), ((readUint bc (readUint bs (readUint bl (readUint bn st).2).2).2).1 : Nat),
    (readText 96 (readUint bc (readUint bs (readUint bl (readUint bn st).2).2).2).2).1, (readText 96 (readText 96 (readUint bc (readUint bs (readUint bl (readUint bn st).2).2).2).2).2).1⟩,
   (readText 96 (readText 96 (readUint bc (readUint bs (readUint bl (readUint bn st).2).2).2).2).2).2)
/-- so many, one behind the other -/
def iter {α : Type} (f : Rd → α × Rd) : Nat → Rd → List α × Rd
  | 0, st => ([], st)
  | k + 1, st => ((iter f k st).1 ++ [(f (iter f k st).2).1], (f (iter f k st).2).2)
abbrev pTable := tableOf 4611686018427387904 4611686018427387904 4611686018427387904 4611686018427387904
abbrev uint62 := readUint 4611686018427387904

/-- what an edit's bytes say, however they are read: `many` says how many there are, `tabs` and `nums` take so many tables and numbers -/
def editOf (many : Rd → Nat × Rd) (tabs : Nat → Rd → List Table × Rd) (nums : Nat → Rd → List Nat × Rd) (st : Rd) : Edit × Rd :=
  let a := uint62 st
  let b := uint62 a.2
  let c := uint62 b.2
  let m := many c.2
  let q := tabs m.1 m.2
  let n := many q.2
  let d := nums n.1 n.2
  (⟨a.1, b.1, c.1, q.1, d.1⟩, d.2)
def pEdit := editOf readMany (iter pTable) (iter uint62)
def noEdit : Edit := ⟨0, 0, 0, [], []⟩
/-- what came of it -/
def editEnd (l : List UInt8) (r : Edit × Rd) : Edit × Int := if (r.2.2 || !r.2.1.isEmpty || !r.1.may || decide (262144 < l.length)) = true then (noEdit, 3) else (r.1, 0)
def decodeEdit (l : List UInt8) : Edit × Int := editEnd l (pEdit (l, false))
end Go.Proofs.YtmmaddmlfofgbaaDoor
/- What takes numbers and texts one behind the other: the contracts with names for what comes of them. -/
namespace Go.Proofs.YtmmaddmlfofgbaaDoor
set_option linter.unusedSimpArgs false
set_option linter.unusedVariables false
open Go.RowKit

end Go.Proofs.YtmmaddmlfofgbaaDoor
/- Manifests (layer 10): an edit's bytes, the program's walk. -/
namespace Go.Proofs.YtmmaddmlfofgbaaDoor
set_option linter.unusedSimpArgs false
set_option linter.unusedVariables false
open Go.RowKit

def tableBytes (t : Table) : List UInt8 := putUint t.num ++ putUint t.level.toNat ++ putUint t.size.toNat ++ putUint t.count.toNat ++ putText t.least ++ putText t.great
def editBytes (e : Edit) : List UInt8 := putUint e.next ++ putUint e.seq ++ putUint e.log ++ putUint e.add.length ++ e.add.flatMap tableBytes ++ putUint e.drop.length ++ e.drop.flatMap putUint
structure TableMay (num lv sz ct : Nat) (a b : List UInt8) : Prop where
  num : 1 ≤ num ∧ num ≤ 4611686018427387904
  lv : lv < 4
  sz : 1 ≤ sz ∧ sz ≤ 1073741824
  ct : 1 ≤ ct ∧ ct ≤ 1073741824
  a : a.length ≤ 96
  b : b.length ≤ 96
end Go.Proofs.YtmmaddmlfofgbaaDoor
/- Manifests (layer 10): an edit's bytes, the document's walk. -/
namespace Go.Proofs.YtmmaddmlfofgbaaDoor
set_option linter.unusedSimpArgs false
set_option linter.unusedVariables false
open Go.RowKit

end Go.Proofs.YtmmaddmlfofgbaaDoor
/- Manifests (layer 10): edits held against each other; an edit held; the walk of the statement ManifestEncodes. -/
namespace Go.Proofs.YtmmaddmlfofgbaaDoor
set_option linter.unusedSimpArgs false
set_option linter.unusedVariables false
open Go.RowKit

end Go.Proofs.YtmmaddmlfofgbaaDoor
/- Manifests (layer 10): an edit held; the walk of the statement ManifestEncodes. -/
namespace Go.Proofs.YtmmaddmlfofgbaaDoor
set_option linter.unusedSimpArgs false
set_option linter.unusedVariables false
open Go.RowKit

theorem Tryd.tablesOf : ElemOf Tryd.prog 25 42 6 64 := elemOf_mk Tryd.underlying25 (z := .agg #[.int .u64 0, .int .i64 0, .int .i64 0, .int .i64 0, str [], str []]) (by kernel_rfl) rfl (by decide)
theorem Tryd.numbersOf : ElemOf Tryd.prog 37 24 1 8 := elemOf_mk Tryd.underlying37 (z := .int .u64 0) (by kernel_rfl) rfl (by decide)
theorem u64C_one (n : Nat) : ∀ u ∈ u64C n, u.oneCell' = true := by simp [u64C, Value.oneCell']

end Go.Proofs.YtmmaddmlfofgbaaDoor
/- What an edit's bytes say (layer 10): the program's walk. -/
namespace Go.Proofs.YtmmaddmlfofgbaaDoor
set_option linter.unusedSimpArgs false
set_option linter.unusedVariables false
open Go.RowKit

theorem EditAt.none (w : World) : EditAt w w.heap.size noEdit none none := ⟨Row.nil_, Row.nil_⟩
def pairVal (e : Edit) (A A' : Option Addr) (c c' : Nat) (n : Int) : Value := .tuple #[e.val A A' c c', .int .i64 n]

/-- what a reading ends with -/
def DecPost (r : Edit × Int) (w : World) (e : Ending) (w' : World) : Prop := ∃ A A' c c', e = .returned (pairVal r.1 A A' c c' r.2) ∧ EditAt w' w'.heap.size r.1 A A' ∧ Ext w w'
theorem DecPost.mk {e : Edit} {n : Int} {w w' : World} {A A' : Option Addr} {c c' : Nat} (h : EditAt w' w'.heap.size e A A') (hX : Ext w w') : DecPost (e, n) w (.returned (pairVal e A A' c c' n)) w' := ⟨A, A', c, c', rfl, h, hX⟩
end Go.Proofs.YtmmaddmlfofgbaaDoor
