/- Parts of this work, one behind the other: Base, Filt, FiltB, Region, Fr, Mem, Base2, App, Mem2, Mem3, Mem4, Mem5, Mem6, Mem7, Mem8, Mem9, Region2, Mem10, Mem11, Mem12, Mem13, Mem14, Mem15, Mem16, Read, Flat, FlatEq, Flat2, Flds, FiltF. -/
import Derived.Below
import Derived.Laws.OwnMore
import Derived.Laws.BytesString
import Derived.Laws.Cells
import Derived.Laws.Rows
import Derived.Laws.StructEq
import Derived.Deep.Draws
import Derived.Lib.Hide
import Derived.WalkKit
import Derived.OrdersHeld
import Derived.Tactics
import Derived.Tactics2
import Derived.Deep.MidRow
import Derived.Laws.CopyOwn
import Derived.Maps.AppendAt
import Derived.Lib.AppendZeros
import Derived.Laws.AppendOwnNone
import Derived.StillTailTactics
import Derived.LoopN
import Derived.Defers
import Derived.Test.YtkblkdnihppmnaaGreatDoorRows
import Derived.Deep.Slices
import Derived.Deep.Strs
import Derived.ProofKit
import Derived.OpenShut
/- Base of this seat's proofs: how slices, boxes and strings lie in memory, and how that is kept. No program in sight. -/
namespace Go.Proofs.YtkblkdnihppmnaaGreatDoor
set_option linter.unusedSimpArgs false
set_option linter.unusedVariables false
open Go.RowKit

/-- a byte as a cell -/
def byteV (b : UInt8) : Value := .int .u8 (b.toNat : Int)

/-- a text as a value -/
abbrev str (l : List UInt8) : Value := .string ⟨l.toArray⟩

theorem str_data (s : ByteArray) : Value.string s = str s.data.toList := rfl

/-- everything that lay below the world's size is as it was -/
abbrev Ext (w w' : World) : Prop := Below w.heap.size w w'

theorem Ext.from {B : Nat} {a b c : World} (h : Below B a b) (hB : B ≤ b.heap.size) (k : Ext b c) : Below B a c := Below.trans h (k.mono hB)

theorem Ext.al (w : World) (o : Obj) : Ext w (w.alloc o) := (Below.refl _ _).alloc (Nat.le_refl _) o
theorem Ext.dr (w : World) : Ext w w.drew := (Below.refl _ _).drew
theorem Ext.below {B : Nat} {a b : World} (h : Ext a b) (hB : B ≤ a.heap.size) : Below B a b := h.mono hB

/-- the cells of a slice value, flat: `xs` are the cells of its `n` elements, `sz` cells each; they lie in a block from `lo` on, below `hi` -/
structure Row (w : World) (lo hi sz : Nat) (A : Option Addr) (n : Nat) (xs : List Value) : Prop where
  len : xs.length = n * sz
  mem : 0 < n → ∃ b off, A = some ⟨b, off, none⟩ ∧ lo ≤ b ∧ b < hi ∧ ∀ j u, xs[j]? = some u → w.cell? ⟨b, off + j, none⟩ = some u

namespace Row
variable {w w' : World} {lo hi lo' hi' sz n : Nat} {A : Option Addr} {xs : List Value}
theorem nil_ : Row w lo hi sz none 0 [] := ⟨by simp, fun h => absurd h (by omega)⟩
theorem keep (h : Row w lo hi sz A n xs) (hk : ∀ b, lo ≤ b → b < hi → w'.heap[b]? = w.heap[b]?) : Row w' lo hi sz A n xs :=
  ⟨h.len, fun hn => by
    obtain ⟨b, off, e, h1, h2, hc⟩ := h.mem hn
    exact ⟨b, off, e, h1, h2, fun j u hu => (World.cell?_of_block (w := w) (a := ⟨b, off + j, none⟩) (hk b h1 h2)).trans (hc j u hu)⟩⟩
theorem below {B : Nat} (h : Row w lo hi sz A n xs) (hb : Below B w w') (hB : hi ≤ B) : Row w' lo hi sz A n xs := h.keep fun b _ h2 => hb.block b (by omega)
theorem ext (h : Row w lo hi sz A n xs) (hb : Ext w w') (hB : hi ≤ w.heap.size) : Row w' lo hi sz A n xs := h.below hb hB
theorem alloc (h : Row w lo hi sz A n xs) (hB : hi ≤ w.heap.size) (o : Obj) : Row (w.alloc o) lo hi sz A n xs := h.keep fun b _ h2 => Below.heap_alloc w o b (by omega)
theorem drew (h : Row w lo hi sz A n xs) : Row w.drew lo hi sz A n xs := h.keep fun _ _ _ => rfl
theorem drewN (h : Row w lo hi sz A n xs) (k : Nat) : Row (w.drewN k) lo hi sz A n xs := h.keep fun _ _ _ => rfl
theorem setCell (h : Row w lo hi sz A n xs) {p : Addr} (hp : p.block < lo ∨ hi ≤ p.block) (u : Value) : Row (w.setCell p u) lo hi sz A n xs :=
  h.keep fun b h1 h2 => Below.heap_setCell w p u b (by omega)
theorem grown (h : Row w lo hi sz A n xs) {row : Option Nat} (hg : w.grownBy w' row) (hB : hi ≤ w.heap.size) (hr : ∀ g, row = some g → g < lo ∨ hi ≤ g) : Row w' lo hi sz A n xs :=
  h.keep fun b h1 h2 => hg.block b (by omega) (fun e => by have := hr b e.symm; omega)
/-- what an owned row holds -/
theorem of_own {base : Nat} {e : TypeId} {c : Nat} (h : w.ownsRow base e sz (.slice A n c) n xs) : Row w base w.heap.size sz A n xs := by
  refine ⟨h.1, fun hn => ?_⟩
  rcases h.2 with ⟨_, h0⟩ | ⟨g, cap, cur, hv, hb, hg, _, _, _, _⟩
  · omega
  · have hA : A = some ⟨g, 0, none⟩ := by injection hv
    subst hA
    refine ⟨g, 0, rfl, hb, (Array.getElem?_eq_some_iff.1 hg).1, fun j u hu => ?_⟩
    have := h.cells (g := g) rfl j u hu
    rwa [show ((⟨g, 0, none⟩ : Addr).add j) = ⟨g, 0 + j, none⟩ by unfold Addr.add; split <;> simp_all] at this
end Row

/-- a slice value of an owned row has the owned form -/
theorem own_form {w : World} {base : Nat} {e : TypeId} {sz n : Nat} {v : Value} {xs : List Value} (h : w.ownsRow base e sz v n xs) : ∃ A c, v = .slice A n c := by
  rcases h.2 with ⟨rfl, rfl⟩ | ⟨g, cap, cur, rfl, _⟩
  · exact ⟨none, 0, rfl⟩
  · exact ⟨_, cap, rfl⟩

/-- an element of a slice whose elements are written as cells by a plain function -/
theorem getElem?_flatMap {α β : Type} {f : α → List β} {sz : Nat} (hf : ∀ x, (f x).length = sz) : ∀ (l : List α) (k j : Nat), j < sz → (l.flatMap f)[k * sz + j]? = (l[k]?).bind fun x => (f x)[j]?
  | [], k, j, _ => by simp
  | x :: l, 0, j, hj => by
    simp only [List.flatMap_cons, Nat.zero_mul, Nat.zero_add]
    rw [List.getElem?_append_left (by rw [hf]; exact hj)]
    simp
  | x :: l, k + 1, j, hj => by
    simp only [List.flatMap_cons]
    rw [List.getElem?_append_right (by rw [hf, Nat.succ_mul]; omega), hf, show (k + 1) * sz + j - sz = k * sz + j by rw [Nat.succ_mul]; omega, getElem?_flatMap hf l k j hj]
    simp

theorem length_flatMap' {α β : Type} {f : α → List β} {sz : Nat} (hf : ∀ x, (f x).length = sz) (l : List α) : (l.flatMap f).length = l.length * sz := by
  induction l with
  | nil => simp
  | cons x l ih => rw [List.flatMap_cons, List.length_append, hf, ih, List.length_cons, Nat.succ_mul, Nat.add_comm]

/-- block g holds just these cells, none of them frozen -/
def Box (w : World) (g : Nat) (t : TypeId) (cs : Array Value) : Prop := w.heap[g]? = some (.cells cs t (0, 0))
namespace Box
variable {w w' : World} {g : Nat} {t : TypeId} {cs : Array Value}
theorem lt (h : Box w g t cs) : g < w.heap.size := (Array.getElem?_eq_some_iff.1 h).1
theorem cell (h : Box w g t cs) (i : Nat) : w.cell? ⟨g, i, none⟩ = cs[i]? := cell_of_row w g i cs t (0, 0) h
theorem frozen (h : Box w g t cs) (i : Nat) : w.frozen? ⟨g, i, none⟩ = false := by
  unfold Box at h
  simp [World.frozen?, h]
theorem new (w : World) (t : TypeId) (cs : Array Value) : Box (w.alloc (.cells cs t)) w.heap.size t cs := heap_alloc_new w _
theorem keep (h : Box w g t cs) (hk : w'.heap[g]? = w.heap[g]?) : Box w' g t cs := hk.trans h
theorem alloc (h : Box w g t cs) (o : Obj) : Box (w.alloc o) g t cs := h.keep (Below.heap_alloc w o g h.lt)
theorem below {B : Nat} (h : Box w g t cs) (hb : Below B w w') (hg : g < B) : Box w' g t cs := h.keep (hb.block g hg)
theorem ext (h : Box w g t cs) (hb : Ext w w') : Box w' g t cs := h.below hb h.lt
theorem grown {row : Option Nat} (h : Box w g t cs) (hb : w.grownBy w' row) (hg : some g ≠ row) : Box w' g t cs := h.keep (hb.block g h.lt hg)
theorem put (h : Box w g t cs) (i : Nat) (u : Value) : Box (w.setCell ⟨g, i, none⟩ u) g t (cs.setIfInBounds i u) := by
  unfold Box at h ⊢
  simp [World.setCell, Array.getElem?_modify, h]
theorem far (h : Box w g t cs) {p : Addr} (hp : g ≠ p.block) (u : Value) : Box (w.setCell p u) g t cs := h.keep (Below.heap_setCell w p u g hp)
end Box

theorem foldl_push_bytes : ∀ (l : List UInt8) (s : List UInt8), (l.map fun b => (b.toNat : Int)).foldl (fun (r : ByteArray) n => r.push (UInt8.ofNat n.toNat)) ⟨s.toArray⟩ = ⟨(s ++ l).toArray⟩
  | [], s => by simp
  | b :: l, s => by
    simp only [List.map_cons, List.foldl_cons]
    have e : (ByteArray.push ⟨s.toArray⟩ (UInt8.ofNat ((b.toNat : Int).toNat))) = ⟨(s ++ [b]).toArray⟩ := by
      simp [ByteArray.push]
    rw [e, foldl_push_bytes l (s ++ [b])]
    simp

/-- string(b) of a slice of bytes -/
theorem run_string_row {P : Program} (w : World) (src dst e : TypeId) (hs : P.underlying src = some (.slice e)) (he : P.underlying e = some (.int .u8)) (hd : P.underlying dst = some .string)
    {lo hi : Nat} {A : Option Addr} {n : Nat} {l : List UInt8} (h : Row w lo hi 1 A n (l.map byteV)) (c : Nat) : (convert src dst (.slice A n c)).run P w = .ok (str l) w := by
  rw [run_convert_bytes_string w src dst e A n c hs he hd]
  have hl : l.length = n := by simpa using h.len
  rcases Nat.eq_zero_or_pos n with h0 | h0
  · subst h0
    have hl0 : l = [] := List.eq_nil_of_length_eq_zero hl
    subst hl0
    cases A with
    | none => simp [Conv.bytesToString]; rfl
    | some a =>
      have := run_bytesToString (P := P) w a 0 c [] (by simpa using run_loadCells_list (P := P) w a [] (by simp))
      rw [this]; rfl
  · obtain ⟨b, off, rfl, _, _, hc⟩ := h.mem h0
    have h1 : (loadCells ⟨b, off, none⟩ n).run P w = .ok ((l.map fun b => (b.toNat : Int)).map (Value.int .u8)).toArray w := by
      have := run_loadCells_list (P := P) w ⟨b, off, none⟩ (l.map byteV) (fun j v hv => by
        rw [show ((⟨b, off, none⟩ : Addr).add j) = ⟨b, off + j, none⟩ by unfold Addr.add; split <;> simp_all]
        exact hc j v hv)
      rw [List.length_map, hl] at this
      rw [this]
      simp [byteV, Function.comp_def]
    rw [run_bytesToString (P := P) w _ n c _ h1]
    have := foldl_push_bytes l []
    simp only [List.nil_append] at this
    show Result.ok (Value.string (List.foldl (fun (r : ByteArray) (n : Int) => r.push (UInt8.ofNat n.toNat)) (⟨#[]⟩ : ByteArray) _)) w = _
    rw [this]

/-- bytes as cells, one each -/
def byteC (b : UInt8) : List Value := [byteV b]
theorem flatMap_byteC (l : List UInt8) : l.flatMap byteC = l.map byteV := by
  induction l with
  | nil => rfl
  | cons b l ih => simp [byteC, ih]

/-- what the laws on append and make ask of a slice's element type -/
structure ElemOf (P : Program) (t e : TypeId) (sz bytes : Nat) : Prop where
  under : P.underlying t = some (.slice e)
  info : ∃ i z, P.info? e = some i ∧ i.zero = some z ∧ i.size = sz ∧ i.bytes = bytes ∧ z.cells.size = sz
  pos : 0 < sz

theorem elemOf_mk {P : Program} {t e : TypeId} {z : Value} {sz bytes : Nat} (ht : P.underlying t = some (.slice e)) (h : (P.info? e).map (fun i => (i.zero, i.size, i.bytes)) = some (some z, sz, bytes)) (hz : z.cells.size = sz) (hp : 0 < sz) : ElemOf P t e sz bytes := by
  obtain ⟨i, h1, h2, h3, h4⟩ := info_parts h
  exact ⟨ht, ⟨i, z, h1, h2, h3, h4, hz⟩, hp⟩

/-- an owned slice: the slice value (A, length, c) holds the elements l, written as cells by f, in a block of the call's own, from `base` on -/
def Own {α : Type} (w : World) (base : Nat) (e : TypeId) (f : α → List Value) (sz : Nat) (A : Option Addr) (c : Nat) (l : List α) : Prop :=
  w.ownsRow base e sz (.slice A l.length c) l.length (l.flatMap f)

def ownBlk : Option Addr → Option Nat | some a => some a.block | none => none

namespace Own
variable {α : Type} {w w' : World} {base : Nat} {e : TypeId} {f : α → List Value} {sz : Nat} {A : Option Addr} {c : Nat} {l : List α}
theorem nil_ : Own w base e f sz none 0 [] := World.ownsRow_nil w base e sz
theorem row (h : Own w base e f sz A c l) : Row w base w.heap.size sz A l.length (l.flatMap f) := Row.of_own h
theorem blk (h : Own w base e f sz A c l) : ∀ g, ownBlk A = some g → base ≤ g ∧ g < w.heap.size := fun g hg => World.ownsRow.lt h g (by cases A with | none => cases hg | some a => exact hg)
theorem keep (h : Own w base e f sz A c l) (hk : ∀ b, base ≤ b → b < w.heap.size → w'.heap[b]? = w.heap[b]?) : Own w' base e f sz A c l := by
  obtain ⟨h1, h2⟩ := h
  refine ⟨h1, ?_⟩
  rcases h2 with h2 | ⟨g, cap, cur, hv, hg, hh, r⟩
  · exact .inl h2
  · exact .inr ⟨g, cap, cur, hv, hg, (hk g hg (Array.getElem?_eq_some_iff.1 hh).1).trans hh, r⟩
theorem ext (h : Own w base e f sz A c l) (hb : Ext w w') : Own w' base e f sz A c l := h.keep fun b _ h2 => hb.block b h2
theorem alloc (h : Own w base e f sz A c l) (o : Obj) : Own (w.alloc o) base e f sz A c l := h.keep fun b _ h2 => Below.heap_alloc w o b h2
theorem grown (h : Own w base e f sz A c l) {row : Option Nat} (hg : w.grownBy w' row) (hne : ∀ g, row = some g → ownBlk A ≠ some g) : Own w' base e f sz A c l := by
  refine World.ownsRow.kept h hg ?_
  cases A with
  | none => exact .inl rfl
  | some a =>
    refine .inr fun e => ?_
    exact hne a.block (by rw [← e]; rfl) rfl
theorem setCell (h : Own w base e f sz A c l) {p : Addr} (hp : ownBlk A ≠ some p.block) (u : Value) : Own (w.setCell p u) base e f sz A c l :=
  h.grown (row := some p.block) ⟨rfl, rfl, rfl, by simp [World.setCell], fun k _ hk => Below.heap_setCell w p u k (fun e => hk (by rw [e]))⟩ (by intro g hg; cases hg; exact hp)
end Own

/-- string(b) of an owned slice of bytes -/
theorem Own.string {P : Program} {w : World} {src dst e : TypeId} (hs : P.underlying src = some (.slice e)) (he : P.underlying e = some (.int .u8)) (hd : P.underlying dst = some .string)
    {base : Nat} {A : Option Addr} {c n : Nat} {l : List UInt8} (h : Own w base e byteC 1 A c l) (hn : n = l.length) : (convert src dst (.slice A n c)).run P w = .ok (str l) w := by
  subst hn
  exact run_string_row w src dst e hs he hd (by rw [← flatMap_byteC]; exact h.row) c

/-- the bytes that cells hold -/
def bytesIn (cs : List Value) : List UInt8 := cs.map fun | .int _ n => UInt8.ofNat n.toNat | _ => 0
theorem foldl_push_ints : ∀ (ns : List Int) (s : List UInt8), ns.foldl (fun (r : ByteArray) n => r.push (UInt8.ofNat n.toNat)) ⟨s.toArray⟩ = ⟨(s ++ ns.map fun n => UInt8.ofNat n.toNat).toArray⟩
  | [], s => by simp
  | b :: l, s => by
    simp only [List.map_cons, List.foldl_cons]
    have e : (ByteArray.push ⟨s.toArray⟩ (UInt8.ofNat (b.toNat))) = ⟨(s ++ [UInt8.ofNat b.toNat]).toArray⟩ := by
      simp [ByteArray.push]
    rw [e, foldl_push_ints l]
    simp
theorem bytes_ints {cs : List Value} (hcs : ∀ v ∈ cs, ∃ x, v = .int .u8 x) : ∃ ns : List Int, cs = ns.map (Value.int .u8) := by
  induction cs with
  | nil => exact ⟨[], rfl⟩
  | cons v cs ih =>
    obtain ⟨x, rfl⟩ := hcs v (by simp)
    obtain ⟨ns, rfl⟩ := ih (fun u hu => hcs u (by simp [hu]))
    exact ⟨x :: ns, rfl⟩
/-- .. that was laid earlier -/
theorem Box.string {P : Program} {src dst e : TypeId} (hs : P.underlying src = some (.slice e)) (he : P.underlying e = some (.int .u8)) (hd : P.underlying dst = some .string)
    {w : World} {cs : List Value} {b : Nat} {e' : TypeId} (h : Box w b e' cs.toArray) (hcs : ∀ v ∈ cs, ∃ x, v = .int .u8 x) (n c : Nat) (hn : n = cs.length) :
    (convert src dst (.slice (some ⟨b, 0, none⟩) n c)).run P w = .ok (str (bytesIn cs)) w := by
  rw [run_convert_bytes_string _ src dst e _ n c hs he hd]
  obtain ⟨ns, rfl⟩ := bytes_ints hcs
  have h1 := run_loadCells_list (P := P) w ⟨b, 0, none⟩ (ns.map (Value.int .u8)) (fun j v hv => by
    rw [show ((⟨b, 0, none⟩ : Addr).add j) = ⟨b, j, none⟩ by unfold Addr.add; split <;> simp_all]
    rw [h.cell]
    simpa using hv)
  rw [List.length_map] at h1
  rw [hn, List.length_map, run_bytesToString (P := P) _ _ _ c ns h1]
  have := foldl_push_ints ns []
  simp only [List.nil_append] at this
  show Result.ok (Value.string (List.foldl (fun (r : ByteArray) (n : Int) => r.push (UInt8.ofNat n.toNat)) (⟨#[]⟩ : ByteArray) _)) _ = _
  rw [this]
  simp [bytesIn, Function.comp_def]

end Go.Proofs.YtkblkdnihppmnaaGreatDoor
/- Filters (layer 21): how a text is read, by the program (which looks one token ahead) and by the document (which does not): the same. No program in sight. -/
namespace Go.Proofs.YtkblkdnihppmnaaGreatDoor.Filt
set_option linter.unusedSimpArgs false
set_option linter.unusedVariables false

/-! ## tokens -/
def runLen (p : UInt8 → Bool) : List UInt8 → Nat
  | [] => 0
  | c :: l => if p c then runLen p l + 1 else 0
def isBlank (c : UInt8) : Bool := decide (c.toNat = 32)
def isSmall (c : UInt8) : Bool := decide (97 ≤ c.toNat ∧ c.toNat ≤ 122)
def isDigit (c : UInt8) : Bool := decide (48 ≤ c.toNat ∧ c.toNat ≤ 57)
def isAln (c : UInt8) : Bool := isSmall c || isDigit c
def notQuote (c : UInt8) : Bool := decide (c.toNat ≠ 34)
/-- digits as a number -/
def decVal (l : List UInt8) : Nat := l.foldl (fun n c => 10 * n + (c.toNat - 48)) 0
/-- a number's text, without noughts ahead, perhaps - ahead (not of 0), in the bounds of 64 bits -/
def magOk (l : List UInt8) : Bool := !l.isEmpty && l.all isDigit && (l.length == 1 || l.head? != some 48)
def numOf (l : List UInt8) : Option Int :=
  match l with
  | 45 :: r => if magOk r && decide (0 < decVal r) && decide (decVal r ≤ 9223372036854775808) then some (-(decVal r : Int)) else none
  | l => if magOk l && decide (decVal l ≤ 9223372036854775807) then some (decVal l : Int) else none
inductive TK where | ended | word | digits | quoted | mark | bad
  deriving DecidableEq
structure Tok where
  kind : TK
  at_ : Nat
  next : Nat
/-- the token of a byte and what stands behind it: its kind, its length -/
def lexCons (c : UInt8) (r : List UInt8) : TK × Nat :=
    if isSmall c then (.word, runLen isAln r + 1)
    else if isDigit c || c.toNat == 45 then (if (numOf (c :: r.take (runLen isDigit r))).isSome then .digits else .bad, runLen isDigit r + 1)
    else if c.toNat = 34 then (if runLen notQuote r < r.length ∧ runLen notQuote r ≤ 64 then (.quoted, runLen notQuote r + 2) else (.bad, 0))
    else if c.toNat = 40 ∨ c.toNat = 41 ∨ c.toNat = 61 then (.mark, 1)
    else if c.toNat = 33 ∨ c.toNat = 60 ∨ c.toNat = 62 then
      (if r.head? = some 61 then (.mark, 2) else if c.toNat = 33 then (.bad, 1) else (.mark, 1))
    else (.bad, 1)
def lexRest : List UInt8 → TK × Nat
  | [] => (.ended, 0)
  | c :: r => lexCons c r
def startOf (s : List UInt8) (p : Nat) : Nat := p + runLen isBlank (s.drop p)
def lex (s : List UInt8) (p : Nat) : Tok :=
  ⟨(lexRest (s.drop (startOf s p))).1, startOf s p, startOf s p + (lexRest (s.drop (startOf s p))).2⟩
def textOf (s : List UInt8) (t : Tok) : List UInt8 := (s.drop t.at_).take (t.next - t.at_)

/-! ## words -/
def fieldNames : List (List UInt8) := [[114, 117, 110], [116, 121, 112, 101], [115, 116, 97, 116, 117, 115], [98, 101, 103, 117, 110], [101, 110, 100, 101, 100], [100, 101, 97, 100, 108, 105, 110, 101], [112, 97, 114, 101, 110, 116], [101, 118, 101, 110, 116, 115], [118, 97, 108, 117, 101], [97, 48], [97, 49], [97, 50], [97, 51], [105, 100]]
def statusNames : List (List UInt8) := [[114, 117, 110, 110, 105, 110, 103], [99, 111, 109, 112, 108, 101, 116, 101, 100], [102, 97, 105, 108, 101, 100], [99, 97, 110, 99, 101, 108, 101, 100], [115, 116, 111, 112, 112, 101, 100], [116, 105, 109, 101, 100, 111, 117, 116], [99, 111, 110, 116, 105, 110, 117, 101, 100]]
def askNames : List (List UInt8) := [[61], [33, 61], [60], [60, 61], [62], [62, 61]]
def wNot : List UInt8 := [110, 111, 116]
def wAnd : List UInt8 := [97, 110, 100]
def wOr : List UInt8 := [111, 114]
def wOpen : List UInt8 := [40]
def wClose : List UInt8 := [41]
/-- a filter -/
inductive Nd where
  | num (field ask : Nat) (n : Int)
  | idt (ask : Nat) (s : List UInt8)
  | not (n : Nd)
  | all (a b : Nd)
  | any (a b : Nd)
inductive Res where
  | ok (n : Nd) (p : Nat)
  | fail (at_ : Nat)

/-- a text, as its tokens are asked -/
structure Lang where
  bad : Nat → Prop
  next : Nat → Nat
  at_ : Nat → Nat
  isNot : Nat → Prop
  isOpen : Nat → Prop
  isClose : Nat → Prop
  isAnd : Nat → Prop
  isOr : Nat → Prop
  test : Bool → Nat → Res
open Classical in
/-- behind the token at hand: the program looks at once whether the next one is one -/
noncomputable def advG (bad : Nat → Prop) (next at_ : Nat → Nat) (e : Bool) (p : Nat) : Except Nat Nat := if e = true ∧ bad (next p) then .error (at_ (next p)) else .ok (next p)
noncomputable def Lang.adv (L : Lang) (e : Bool) (p : Nat) : Except Nat Nat := advG L.bad L.next L.at_ e p
open Classical in
/-- a test: a field's name, what it asks, a value -/
noncomputable def testG (adv : Bool → Nat → Except Nat Nat) (at_ : Nat → Nat) (isField isAsk : Nat → Prop) (val : Nat → Nat → Nat → Option Nd) (e : Bool) (p : Nat) : Res :=
  if isField p then
    match adv e p with
    | .error a => .fail a
    | .ok p1 =>
      if isAsk p1 then
        match adv e p1 with
        | .error a => .fail a
        | .ok p2 =>
          match val p p1 p2 with
          | none => .fail (at_ p2)
          | some n =>
            match adv e p2 with
            | .error a => .fail a
            | .ok p3 => .ok n p3
      else .fail (at_ p1)
  else .fail (at_ p)
open Classical in
/-- what the document reads, as the program tells it -/
noncomputable def Lang.wrap (L : Lang) : Res → Res
  | .ok n p => if L.bad p then .fail (L.at_ p) else .ok n p
  | .fail a => .fail a
/-- what is read -/
inductive NT where
  | one
  | all
  | any
  | allMore (acc : Nd)
  | anyMore (acc : Nd)
inductive Reads (L : Lang) (e : Bool) : NT → Nat → Nat → Res → Prop where
  | test {d p : Nat} (h1 : ¬ L.isNot p) (h2 : ¬ L.isOpen p) : Reads L e .one d p (L.test e p)
  | deep {d p : Nat} (h : L.isNot p ∨ L.isOpen p) (hd : d = 32) : Reads L e .one d p (.fail (L.at_ p))
  | notBad {d p a : Nat} (h : L.isNot p) (hd : d ≠ 32) (ha : L.adv e p = .error a) : Reads L e .one d p (.fail a)
  | notOk {d p p1 p2 : Nat} {n : Nd} (h : L.isNot p) (hd : d ≠ 32) (ha : L.adv e p = .ok p1) (hr : Reads L e .one (d + 1) p1 (.ok n p2)) : Reads L e .one d p (.ok (.not n) p2)
  | notFail {d p p1 a : Nat} (h : L.isNot p) (hd : d ≠ 32) (ha : L.adv e p = .ok p1) (hr : Reads L e .one (d + 1) p1 (.fail a)) : Reads L e .one d p (.fail a)
  | openBad {d p a : Nat} (h0 : ¬ L.isNot p) (h : L.isOpen p) (hd : d ≠ 32) (ha : L.adv e p = .error a) : Reads L e .one d p (.fail a)
  | openFail {d p p1 a : Nat} (h0 : ¬ L.isNot p) (h : L.isOpen p) (hd : d ≠ 32) (ha : L.adv e p = .ok p1) (hr : Reads L e .any (d + 1) p1 (.fail a)) : Reads L e .one d p (.fail a)
  | openNot {d p p1 p2 : Nat} {n : Nd} (h0 : ¬ L.isNot p) (h : L.isOpen p) (hd : d ≠ 32) (ha : L.adv e p = .ok p1) (hr : Reads L e .any (d + 1) p1 (.ok n p2)) (hc : ¬ L.isClose p2) : Reads L e .one d p (.fail (L.at_ p2))
  | openClose {d p p1 p2 a : Nat} {n : Nd} (h0 : ¬ L.isNot p) (h : L.isOpen p) (hd : d ≠ 32) (ha : L.adv e p = .ok p1) (hr : Reads L e .any (d + 1) p1 (.ok n p2)) (hc : L.isClose p2) (hb : L.adv e p2 = .error a) : Reads L e .one d p (.fail a)
  | openOk {d p p1 p2 p3 : Nat} {n : Nd} (h0 : ¬ L.isNot p) (h : L.isOpen p) (hd : d ≠ 32) (ha : L.adv e p = .ok p1) (hr : Reads L e .any (d + 1) p1 (.ok n p2)) (hc : L.isClose p2) (hb : L.adv e p2 = .ok p3) : Reads L e .one d p (.ok n p3)
  | allFail {d p a : Nat} (h : Reads L e .one d p (.fail a)) : Reads L e .all d p (.fail a)
  | allOk {d p p1 : Nat} {n : Nd} {r : Res} (h : Reads L e .one d p (.ok n p1)) (hr : Reads L e (.allMore n) d p1 r) : Reads L e .all d p r
  | allEnd {d p : Nat} {n : Nd} (h : ¬ L.isAnd p) : Reads L e (.allMore n) d p (.ok n p)
  | allBad {d p a : Nat} {n : Nd} (h : L.isAnd p) (ha : L.adv e p = .error a) : Reads L e (.allMore n) d p (.fail a)
  | allNo {d p p1 a : Nat} {n : Nd} (h : L.isAnd p) (ha : L.adv e p = .ok p1) (hr : Reads L e .one d p1 (.fail a)) : Reads L e (.allMore n) d p (.fail a)
  | allMore {d p p1 p2 : Nat} {n m : Nd} {r : Res} (h : L.isAnd p) (ha : L.adv e p = .ok p1) (hr : Reads L e .one d p1 (.ok m p2)) (hm : Reads L e (.allMore (.all n m)) d p2 r) : Reads L e (.allMore n) d p r
  | anyFail {d p a : Nat} (h : Reads L e .all d p (.fail a)) : Reads L e .any d p (.fail a)
  | anyOk {d p p1 : Nat} {n : Nd} {r : Res} (h : Reads L e .all d p (.ok n p1)) (hr : Reads L e (.anyMore n) d p1 r) : Reads L e .any d p r
  | anyEnd {d p : Nat} {n : Nd} (h : ¬ L.isOr p) : Reads L e (.anyMore n) d p (.ok n p)
  | anyBad {d p a : Nat} {n : Nd} (h : L.isOr p) (ha : L.adv e p = .error a) : Reads L e (.anyMore n) d p (.fail a)
  | anyNo {d p p1 a : Nat} {n : Nd} (h : L.isOr p) (ha : L.adv e p = .ok p1) (hr : Reads L e .all d p1 (.fail a)) : Reads L e (.anyMore n) d p (.fail a)
  | anyMore {d p p1 p2 : Nat} {n m : Nd} {r : Res} (h : L.isOr p) (ha : L.adv e p = .ok p1) (hr : Reads L e .all d p1 (.ok m p2)) (hm : Reads L e (.anyMore (.any n m)) d p2 r) : Reads L e (.anyMore n) d p r
/-! ## to look ahead or not -/
theorem adv_lazy {L : Lang} {p : Nat} : L.adv false p = .ok (L.next p) := by unfold Lang.adv advG; rw [if_neg (by simp)]
theorem adv_err {L : Lang} {p a : Nat} (h : L.adv true p = .error a) : L.bad (L.next p) ∧ a = L.at_ (L.next p) := by
  unfold Lang.adv advG at h
  split at h
  · rename_i h1; cases h; exact ⟨h1.2, rfl⟩
  · cases h
theorem adv_ok {L : Lang} {p q : Nat} (h : L.adv true p = .ok q) : q = L.next p ∧ ¬ L.bad q := by
  unfold Lang.adv advG at h
  split at h
  · cases h
  · rename_i h1; cases h; exact ⟨rfl, fun x => h1 ⟨rfl, x⟩⟩
structure Lang.Good (L : Lang) : Prop where
  word : ∀ {p}, L.bad p → (L.isNot p ∨ L.isOpen p ∨ L.isClose p ∨ L.isAnd p ∨ L.isOr p) → False
  test : ∀ e p, L.bad p → L.test e p = .fail (L.at_ p)
  look : ∀ p, L.test true p = L.wrap (L.test false p)
theorem test_look {L : Lang} {isField isAsk : Nat → Prop} {val : Nat → Nat → Nat → Option Nd} (ha : ∀ {p}, L.bad p → ¬ isAsk p) (hv : ∀ p p1 {p2}, L.bad p2 → val p p1 p2 = none) (p : Nat) :
    testG L.adv L.at_ isField isAsk val true p = L.wrap (testG L.adv L.at_ isField isAsk val false p) := by
  unfold testG
  by_cases h1 : isField p
  · rw [if_pos h1, if_pos h1, adv_lazy]
    simp only []
    cases h2 : L.adv true p with
    | error a =>
      obtain ⟨hb, rfl⟩ := adv_err h2
      simp only []
      rw [if_neg (ha hb)]
      rfl
    | ok p1 =>
      obtain ⟨rfl, hn⟩ := adv_ok h2
      simp only []
      by_cases h3 : isAsk (L.next p)
      · rw [if_pos h3, if_pos h3, adv_lazy]
        simp only []
        cases h4 : L.adv true (L.next p) with
        | error a =>
          obtain ⟨hb, rfl⟩ := adv_err h4
          rw [hv _ _ hb]
          rfl
        | ok p2 =>
          obtain ⟨rfl, hn2⟩ := adv_ok h4
          simp only []
          cases val p (L.next p) (L.next (L.next p)) with
          | none => rfl
          | some n =>
            simp only [adv_lazy]
            cases h5 : L.adv true (L.next (L.next p)) with
            | error a =>
              obtain ⟨hb, rfl⟩ := adv_err h5
              simp only [Lang.wrap]
              rw [if_pos hb]
            | ok p3 =>
              obtain ⟨rfl, hn3⟩ := adv_ok h5
              simp only [Lang.wrap]
              rw [if_neg hn3]
      · rw [if_neg h3, if_neg h3]
        rfl
  · rw [if_neg h1, if_neg h1]
    rfl
section
variable {L : Lang} (hB : L.Good)
include hB
theorem reads_bad {e : Bool} {p d : Nat} (hb : L.bad p) {nt : NT} (hn : nt = .one ∨ nt = .all ∨ nt = .any) {r : Res} (h : Reads L e nt d p r) : r = .fail (L.at_ p) := by
  have one : ∀ {d r}, Reads L e .one d p r → r = .fail (L.at_ p) := by
    intro d r h
    cases h with
    | test => exact hB.test _ _ hb
    | deep => rfl
    | notBad h => exact (hB.word hb (by simp only [h, true_or, or_true])).elim
    | notOk h => exact (hB.word hb (by simp only [h, true_or, or_true])).elim
    | notFail h => exact (hB.word hb (by simp only [h, true_or, or_true])).elim
    | openBad _ h => exact (hB.word hb (by simp only [h, true_or, or_true])).elim
    | openFail _ h => exact (hB.word hb (by simp only [h, true_or, or_true])).elim
    | openNot _ h => exact (hB.word hb (by simp only [h, true_or, or_true])).elim
    | openClose _ h => exact (hB.word hb (by simp only [h, true_or, or_true])).elim
    | openOk _ h => exact (hB.word hb (by simp only [h, true_or, or_true])).elim
  have all : ∀ {d r}, Reads L e .all d p r → r = .fail (L.at_ p) := by
    intro d r h
    cases h with
    | allFail h => exact one h
    | allOk h => have := one h; cases this
  rcases hn with rfl | rfl | rfl
  · exact one h
  · exact all h
  · cases h with
    | anyFail h => exact all h
    | anyOk h => have := all h; cases this
theorem reads_same {nt : NT} {d p : Nat} {r : Res} (h : Reads L true nt d p r) : ¬ L.bad p → ∀ {r' : Res}, Reads L false nt d p r' → r = L.wrap r' := by
  induction h with
  | test h1 h2 =>
    intro hb r' h
    cases h with
    | test => exact hB.look _
    | deep h => rcases h with h | h <;> contradiction
    | notBad h => contradiction
    | notOk h => contradiction
    | notFail h => contradiction
    | openBad _ h => contradiction
    | openFail _ h => contradiction
    | openNot _ h => contradiction
    | openClose _ h => contradiction
    | openOk _ h => contradiction
  | deep hw hd =>
    intro hb r' h
    cases h with
    | test h1 h2 => rcases hw with h | h <;> contradiction
    | deep h => rfl
    | _ => contradiction
  | notBad hw hd ha =>
    intro hb r' h
    obtain ⟨hb1, rfl⟩ := adv_err ha
    cases h with
    | test h1 h2 => contradiction
    | deep _ h => contradiction
    | notBad _ _ ha' => rw [adv_lazy] at ha'; cases ha'
    | notOk _ _ ha' hr => rw [adv_lazy] at ha'; cases ha'; have := reads_bad hB hb1 (.inl rfl) hr; cases this
    | notFail _ _ ha' hr => rw [adv_lazy] at ha'; cases ha'; have := reads_bad hB hb1 (.inl rfl) hr; cases this; rfl
    | openBad h => contradiction
    | openFail h => contradiction
    | openNot h => contradiction
    | openClose h => contradiction
    | openOk h => contradiction
  | notOk hw hd ha hr ih =>
    intro hb r' h
    obtain ⟨rfl, hn⟩ := adv_ok ha
    cases h with
    | test h1 h2 => contradiction
    | deep _ h => contradiction
    | notBad _ _ ha' => rw [adv_lazy] at ha'; cases ha'
    | notOk _ _ ha' hr' =>
      rw [adv_lazy] at ha'; cases ha'
      have := ih hn hr'
      simp only [Lang.wrap] at this ⊢
      split at this
      · cases this
      · rename_i h1; cases this; rw [if_neg h1]
    | notFail _ _ ha' hr' => rw [adv_lazy] at ha'; cases ha'; have := ih hn hr'; cases this
    | openBad h => contradiction
    | openFail h => contradiction
    | openNot h => contradiction
    | openClose h => contradiction
    | openOk h => contradiction
  | notFail hw hd ha hr ih =>
    intro hb r' h
    obtain ⟨rfl, hn⟩ := adv_ok ha
    cases h with
    | test h1 h2 => contradiction
    | deep _ h => contradiction
    | notBad _ _ ha' => rw [adv_lazy] at ha'; cases ha'
    | notOk _ _ ha' hr' =>
      rw [adv_lazy] at ha'; cases ha'
      have := ih hn hr'
      simp only [Lang.wrap] at this ⊢
      split at this
      · rename_i h1; cases this; rw [if_pos h1]
      · cases this
    | notFail _ _ ha' hr' => rw [adv_lazy] at ha'; cases ha'; have := ih hn hr'; cases this; rfl
    | openBad h => contradiction
    | openFail h => contradiction
    | openNot h => contradiction
    | openClose h => contradiction
    | openOk h => contradiction
  | openBad h0 hw hd ha =>
    intro hb r' h
    obtain ⟨hb1, rfl⟩ := adv_err ha
    cases h with
    | test h1 h2 => contradiction
    | deep _ h => contradiction
    | notBad h => contradiction
    | notOk h => contradiction
    | notFail h => contradiction
    | openBad _ _ _ ha' => rw [adv_lazy] at ha'; cases ha'
    | openFail _ _ _ ha' hr => rw [adv_lazy] at ha'; cases ha'; have := reads_bad hB hb1 (.inr (.inr rfl)) hr; cases this; rfl
    | openNot _ _ _ ha' hr => rw [adv_lazy] at ha'; cases ha'; have := reads_bad hB hb1 (.inr (.inr rfl)) hr; cases this
    | openClose _ _ _ ha' hr => rw [adv_lazy] at ha'; cases ha'; have := reads_bad hB hb1 (.inr (.inr rfl)) hr; cases this
    | openOk _ _ _ ha' hr => rw [adv_lazy] at ha'; cases ha'; have := reads_bad hB hb1 (.inr (.inr rfl)) hr; cases this
  | openFail h0 hw hd ha hr ih =>
    intro hb r' h
    obtain ⟨rfl, hn⟩ := adv_ok ha
    cases h with
    | test h1 h2 => contradiction
    | deep _ h => contradiction
    | notBad h => contradiction
    | notOk h => contradiction
    | notFail h => contradiction
    | openBad _ _ _ ha' => rw [adv_lazy] at ha'; cases ha'
    | openFail _ _ _ ha' hr' => rw [adv_lazy] at ha'; cases ha'; exact ih hn hr'
    | openNot _ _ _ ha' hr' hc =>
      rw [adv_lazy] at ha'; cases ha'
      have := ih hn hr'
      simp only [Lang.wrap] at this
      split at this
      · cases this; rfl
      · cases this
    | openClose _ _ _ ha' hr' hc hb' => rw [adv_lazy] at hb'; cases hb'
    | openOk _ _ _ ha' hr' hc =>
      rw [adv_lazy] at ha'; cases ha'
      have := ih hn hr'
      simp only [Lang.wrap] at this
      split at this
      · rename_i h1; exact (hB.word h1 (by simp only [hc, true_or, or_true])).elim
      · cases this
  | openNot h0 hw hd ha hr hc ih =>
    intro hb r' h
    obtain ⟨rfl, hn⟩ := adv_ok ha
    cases h with
    | test h1 h2 => contradiction
    | deep _ h => contradiction
    | notBad h => contradiction
    | notOk h => contradiction
    | notFail h => contradiction
    | openBad _ _ _ ha' => rw [adv_lazy] at ha'; cases ha'
    | openFail _ _ _ ha' hr' => rw [adv_lazy] at ha'; cases ha'; have := ih hn hr'; cases this
    | openNot _ _ _ ha' hr' hc' =>
      rw [adv_lazy] at ha'; cases ha'
      have := ih hn hr'
      simp only [Lang.wrap] at this
      split at this
      · cases this
      · cases this; rfl
    | openClose _ _ _ ha' hr' hc' hb' => rw [adv_lazy] at hb'; cases hb'
    | openOk _ _ _ ha' hr' hc' =>
      rw [adv_lazy] at ha'; cases ha'
      have := ih hn hr'
      simp only [Lang.wrap] at this
      split at this
      · cases this
      · cases this; contradiction
  | openClose h0 hw hd ha hr hc hx ih =>
    intro hb r' h
    obtain ⟨rfl, hn⟩ := adv_ok ha
    obtain ⟨hb1, rfl⟩ := adv_err hx
    cases h with
    | test h1 h2 => contradiction
    | deep _ h => contradiction
    | notBad h => contradiction
    | notOk h => contradiction
    | notFail h => contradiction
    | openBad _ _ _ ha' => rw [adv_lazy] at ha'; cases ha'
    | openFail _ _ _ ha' hr' => rw [adv_lazy] at ha'; cases ha'; have := ih hn hr'; cases this
    | openNot _ _ _ ha' hr' hc' =>
      rw [adv_lazy] at ha'; cases ha'
      have := ih hn hr'
      simp only [Lang.wrap] at this
      split at this
      · cases this
      · cases this; contradiction
    | openClose _ _ _ ha' hr' hc' hb' => rw [adv_lazy] at hb'; cases hb'
    | openOk _ _ _ ha' hr' hc' hb' =>
      rw [adv_lazy] at ha'; cases ha'
      rw [adv_lazy] at hb'; cases hb'
      have := ih hn hr'
      simp only [Lang.wrap] at this
      split at this
      · cases this
      · cases this
        simp only [Lang.wrap]
        rw [if_pos hb1]
  | openOk h0 hw hd ha hr hc hx ih =>
    intro hb r' h
    obtain ⟨rfl, hn⟩ := adv_ok ha
    obtain ⟨rfl, hn3⟩ := adv_ok hx
    cases h with
    | test h1 h2 => contradiction
    | deep _ h => contradiction
    | notBad h => contradiction
    | notOk h => contradiction
    | notFail h => contradiction
    | openBad _ _ _ ha' => rw [adv_lazy] at ha'; cases ha'
    | openFail _ _ _ ha' hr' => rw [adv_lazy] at ha'; cases ha'; have := ih hn hr'; cases this
    | openNot _ _ _ ha' hr' hc' =>
      rw [adv_lazy] at ha'; cases ha'
      have := ih hn hr'
      simp only [Lang.wrap] at this
      split at this
      · cases this
      · cases this; contradiction
    | openClose _ _ _ ha' hr' hc' hb' => rw [adv_lazy] at hb'; cases hb'
    | openOk _ _ _ ha' hr' hc' hb' =>
      rw [adv_lazy] at ha'; cases ha'
      rw [adv_lazy] at hb'; cases hb'
      have := ih hn hr'
      simp only [Lang.wrap] at this
      split at this
      · cases this
      · cases this
        simp only [Lang.wrap]
        rw [if_neg hn3]
  | allFail hr ih =>
    intro hb r' h
    cases h with
    | allFail h => exact ih hb h
    | allOk h hm =>
      have := ih hb h
      simp only [Lang.wrap] at this
      split at this
      · rename_i h1
        cases this
        cases hm with
        | allEnd => simp only [Lang.wrap]; rw [if_pos h1]
        | allBad h => exact (hB.word h1 (by simp only [h, true_or, or_true])).elim
        | allNo h => exact (hB.word h1 (by simp only [h, true_or, or_true])).elim
        | allMore h => exact (hB.word h1 (by simp only [h, true_or, or_true])).elim
      · cases this
  | allOk hr hm ih1 ih2 =>
    intro hb r' h
    cases h with
    | allFail h => have := ih1 hb h; cases this
    | allOk h hm' =>
      have := ih1 hb h
      simp only [Lang.wrap] at this
      split at this
      · cases this
      · rename_i h1; cases this; exact ih2 h1 hm'
  | allEnd hw =>
    intro hb r' h
    cases h with
    | allEnd => simp only [Lang.wrap]; rw [if_neg hb]
    | allBad h => contradiction
    | allNo h => contradiction
    | allMore h => contradiction
  | allBad hw ha =>
    intro hb r' h
    obtain ⟨hb1, rfl⟩ := adv_err ha
    cases h with
    | allEnd => contradiction
    | allBad h ha' => rw [adv_lazy] at ha'; cases ha'
    | allNo h ha' hr' => rw [adv_lazy] at ha'; cases ha'; have := reads_bad hB hb1 (.inl rfl) hr'; cases this; rfl
    | allMore h ha' hr' => rw [adv_lazy] at ha'; cases ha'; have := reads_bad hB hb1 (.inl rfl) hr'; cases this
  | allNo hw ha hr ih =>
    intro hb r' h
    obtain ⟨rfl, hn⟩ := adv_ok ha
    cases h with
    | allEnd => contradiction
    | allBad h ha' => rw [adv_lazy] at ha'; cases ha'
    | allNo h ha' hr' => rw [adv_lazy] at ha'; cases ha'; exact ih hn hr'
    | allMore h ha' hr' hm =>
      rw [adv_lazy] at ha'; cases ha'
      have := ih hn hr'
      simp only [Lang.wrap] at this
      split at this
      · rename_i h1
        cases this
        cases hm with
        | allEnd => simp only [Lang.wrap]; rw [if_pos h1]
        | allBad h => exact (hB.word h1 (by simp only [h, true_or, or_true])).elim
        | allNo h => exact (hB.word h1 (by simp only [h, true_or, or_true])).elim
        | allMore h => exact (hB.word h1 (by simp only [h, true_or, or_true])).elim
      · cases this
  | allMore hw ha hr hm ih1 ih2 =>
    intro hb r' h
    obtain ⟨rfl, hn⟩ := adv_ok ha
    cases h with
    | allEnd => contradiction
    | allBad h ha' => rw [adv_lazy] at ha'; cases ha'
    | allNo h ha' hr' => rw [adv_lazy] at ha'; cases ha'; have := ih1 hn hr'; cases this
    | allMore h ha' hr' hm' =>
      rw [adv_lazy] at ha'; cases ha'
      have := ih1 hn hr'
      simp only [Lang.wrap] at this
      split at this
      · cases this
      · rename_i h1; cases this; exact ih2 h1 hm'
  | anyFail hr ih =>
    intro hb r' h
    cases h with
    | anyFail h => exact ih hb h
    | anyOk h hm =>
      have := ih hb h
      simp only [Lang.wrap] at this
      split at this
      · rename_i h1
        cases this
        cases hm with
        | anyEnd => simp only [Lang.wrap]; rw [if_pos h1]
        | anyBad h => exact (hB.word h1 (by simp only [h, true_or, or_true])).elim
        | anyNo h => exact (hB.word h1 (by simp only [h, true_or, or_true])).elim
        | anyMore h => exact (hB.word h1 (by simp only [h, true_or, or_true])).elim
      · cases this
  | anyOk hr hm ih1 ih2 =>
    intro hb r' h
    cases h with
    | anyFail h => have := ih1 hb h; cases this
    | anyOk h hm' =>
      have := ih1 hb h
      simp only [Lang.wrap] at this
      split at this
      · cases this
      · rename_i h1; cases this; exact ih2 h1 hm'
  | anyEnd hw =>
    intro hb r' h
    cases h with
    | anyEnd => simp only [Lang.wrap]; rw [if_neg hb]
    | anyBad h => contradiction
    | anyNo h => contradiction
    | anyMore h => contradiction
  | anyBad hw ha =>
    intro hb r' h
    obtain ⟨hb1, rfl⟩ := adv_err ha
    cases h with
    | anyEnd => contradiction
    | anyBad h ha' => rw [adv_lazy] at ha'; cases ha'
    | anyNo h ha' hr' => rw [adv_lazy] at ha'; cases ha'; have := reads_bad hB hb1 (.inr (.inl rfl)) hr'; cases this; rfl
    | anyMore h ha' hr' => rw [adv_lazy] at ha'; cases ha'; have := reads_bad hB hb1 (.inr (.inl rfl)) hr'; cases this
  | anyNo hw ha hr ih =>
    intro hb r' h
    obtain ⟨rfl, hn⟩ := adv_ok ha
    cases h with
    | anyEnd => contradiction
    | anyBad h ha' => rw [adv_lazy] at ha'; cases ha'
    | anyNo h ha' hr' => rw [adv_lazy] at ha'; cases ha'; exact ih hn hr'
    | anyMore h ha' hr' hm =>
      rw [adv_lazy] at ha'; cases ha'
      have := ih hn hr'
      simp only [Lang.wrap] at this
      split at this
      · rename_i h1
        cases this
        cases hm with
        | anyEnd => simp only [Lang.wrap]; rw [if_pos h1]
        | anyBad h => exact (hB.word h1 (by simp only [h, true_or, or_true])).elim
        | anyNo h => exact (hB.word h1 (by simp only [h, true_or, or_true])).elim
        | anyMore h => exact (hB.word h1 (by simp only [h, true_or, or_true])).elim
      · cases this
  | anyMore hw ha hr hm ih1 ih2 =>
    intro hb r' h
    obtain ⟨rfl, hn⟩ := adv_ok ha
    cases h with
    | anyEnd => contradiction
    | anyBad h ha' => rw [adv_lazy] at ha'; cases ha'
    | anyNo h ha' hr' => rw [adv_lazy] at ha'; cases ha'; have := ih1 hn hr'; cases this
    | anyMore h ha' hr' hm' =>
      rw [adv_lazy] at ha'; cases ha'
      have := ih1 hn hr'
      simp only [Lang.wrap] at this
      split at this
      · cases this
      · rename_i h1; cases this; exact ih2 h1 hm'
end
end Go.Proofs.YtkblkdnihppmnaaGreatDoor.Filt
/- Filters (layer 21): the tokens of a text, what a filter holds of, and its text, by the program and by the document. No program in sight. -/
namespace Go.Proofs.YtkblkdnihppmnaaGreatDoor.Filt
set_option linter.unusedSimpArgs false
set_option linter.unusedVariables false

/-! ## the tokens of a text -/
section
variable (s : List UInt8)
def isWord (p : Nat) (w : List UInt8) : Prop := ((lex s p).kind = .word ∨ (lex s p).kind = .mark) ∧ textOf s (lex s p) = w
/-- a test's value -/
def testVal (f k p : Nat) : Option Nd :=
  if f = 13 ∧ (lex s p).kind = .quoted then some (.idt k ((textOf s (lex s p)).drop 1).dropLast)
  else if f ≠ 13 ∧ (lex s p).kind = .digits then some (.num f k ((numOf (textOf s (lex s p))).getD 0))
  else if f = 2 ∧ (lex s p).kind = .word ∧ statusNames.idxOf (textOf s (lex s p)) < 7 then some (.num f k (statusNames.idxOf (textOf s (lex s p)) + 1))
  else none
def fieldOf (p : Nat) : Nat := fieldNames.idxOf (textOf s (lex s p))
def askOf (p : Nat) : Nat := askNames.idxOf (textOf s (lex s p))
def isBad (p : Nat) : Prop := (lex s p).kind = .bad
def nextOf (p : Nat) : Nat := (lex s p).next
def atOf (p : Nat) : Nat := (lex s p).at_
def isField (p : Nat) : Prop := (lex s p).kind = .word ∧ fieldOf s p < 14
def isAsk (p : Nat) : Prop := (lex s p).kind = .mark ∧ askOf s p < 6
noncomputable def lang : Lang where
  bad := isBad s
  next := nextOf s
  at_ := atOf s
  isNot p := isWord s p wNot
  isOpen p := isWord s p wOpen
  isClose p := isWord s p wClose
  isAnd p := isWord s p wAnd
  isOr p := isWord s p wOr
  test := testG (advG (isBad s) (nextOf s) (atOf s)) (atOf s) (isField s) (isAsk s) fun p p1 p2 => testVal s (fieldOf s p) (askOf s p1) p2
theorem testVal_bad {f k p : Nat} (h : isBad s p) : testVal s f k p = none := by
  have h : (lex s p).kind = .bad := h
  unfold testVal
  rw [h]
  simp
theorem lang_good : (lang s).Good where
  word := by
    intro p h
    have h' : (lex s p).kind = .bad := h
    have key : ∀ w, ¬ isWord s p w := fun w hw => by
      unfold isWord at hw
      rw [h'] at hw
      rcases hw.1 with h1 | h1 <;> cases h1
    rintro (h1 | h1 | h1 | h1 | h1) <;> exact key _ h1
  test := by
    intro e p h
    have h' : (lex s p).kind = .bad := h
    show testG (advG (isBad s) (nextOf s) (atOf s)) (atOf s) (isField s) (isAsk s) (fun p p1 p2 => testVal s (fieldOf s p) (askOf s p1) p2) e p = .fail (atOf s p)
    unfold testG
    exact if_neg (by unfold isField; rw [h']; simp)
  look := fun p => test_look (L := lang s) (isField := isField s) (isAsk := isAsk s) (val := fun p p1 p2 => testVal s (fieldOf s p) (askOf s p1) p2) (fun {p} h => by have h : (lex s p).kind = .bad := h; unfold isAsk; rw [h]; simp) (fun _ _ _ h => testVal_bad s h) p
end

/-! ## a text as a filter -/
inductive Out where
  | ok (f : Option Nd)
  | no (at_ : Nat)
/-- by the program, by the document -/
inductive ParseP (s : List UInt8) : Out → Prop where
  | long (h : 512 < s.length) : ParseP s (.no 512)
  | bad (h : s.length ≤ 512) (hb : (lex s 0).kind = .bad) : ParseP s (.no (lex s 0).at_)
  | none (h : s.length ≤ 512) (he : (lex s 0).kind = .ended) : ParseP s (.ok none)
  | fail {a : Nat} (h : s.length ≤ 512) (hb : (lex s 0).kind ≠ .bad) (he : (lex s 0).kind ≠ .ended) (hr : Reads (lang s) true .any 0 0 (.fail a)) : ParseP s (.no a)
  | more {n : Nd} {p : Nat} (h : s.length ≤ 512) (hb : (lex s 0).kind ≠ .bad) (he : (lex s 0).kind ≠ .ended) (hr : Reads (lang s) true .any 0 0 (.ok n p)) (hp : (lex s p).kind ≠ .ended) : ParseP s (.no (lex s p).at_)
  | ok {n : Nd} {p : Nat} (h : s.length ≤ 512) (hb : (lex s 0).kind ≠ .bad) (he : (lex s 0).kind ≠ .ended) (hr : Reads (lang s) true .any 0 0 (.ok n p)) (hp : (lex s p).kind = .ended) : ParseP s (.ok (some n))
inductive ParseR (s : List UInt8) : Out → Prop where
  | long (h : 512 < s.length) : ParseR s (.no 512)
  | none (h : s.length ≤ 512) (he : (lex s 0).kind = .ended) : ParseR s (.ok none)
  | fail {a : Nat} (h : s.length ≤ 512) (he : (lex s 0).kind ≠ .ended) (hr : Reads (lang s) false .any 0 0 (.fail a)) : ParseR s (.no a)
  | more {n : Nd} {p : Nat} (h : s.length ≤ 512) (he : (lex s 0).kind ≠ .ended) (hr : Reads (lang s) false .any 0 0 (.ok n p)) (hp : (lex s p).kind ≠ .ended) : ParseR s (.no (lex s p).at_)
  | ok {n : Nd} {p : Nat} (h : s.length ≤ 512) (he : (lex s 0).kind ≠ .ended) (hr : Reads (lang s) false .any 0 0 (.ok n p)) (hp : (lex s p).kind = .ended) : ParseR s (.ok (some n))
theorem parse_same {s : List UInt8} {a b : Out} (h : ParseP s a) (k : ParseR s b) : a = b := by
  have same : ∀ {r r'}, (lex s 0).kind ≠ .bad → Reads (lang s) true .any 0 0 r → Reads (lang s) false .any 0 0 r' → r = (lang s).wrap r' := fun hb h k => reads_same (lang_good s) h hb k
  have wrapped : ∀ {n p q m}, Res.ok n p = (lang s).wrap (.ok m q) → n = m ∧ p = q ∧ (lex s q).kind ≠ .bad := by
    intro n p q m h
    simp only [Lang.wrap] at h
    split at h
    · cases h
    · rename_i h1; cases h; exact ⟨rfl, rfl, h1⟩
  have wrapf : ∀ {a q m}, Res.fail a = (lang s).wrap (.ok m q) → (lex s q).kind = .bad ∧ a = (lex s q).at_ := by
    intro n q m h
    simp only [Lang.wrap] at h
    split at h
    · rename_i h1; cases h; exact ⟨h1, rfl⟩
    · cases h
  cases h with
  | long h => cases k with
    | long => rfl
    | _ => omega
  | bad h hb => cases k with
    | long => omega
    | none _ he => rw [hb] at he; cases he
    | fail _ _ hr => have := reads_bad (lang_good s) (p := 0) hb (.inr (.inr rfl)) hr; cases this; rfl
    | more _ _ hr => have := reads_bad (lang_good s) (p := 0) hb (.inr (.inr rfl)) hr; cases this
    | ok _ _ hr => have := reads_bad (lang_good s) (p := 0) hb (.inr (.inr rfl)) hr; cases this
  | none h he => cases k with
    | long => omega
    | none => rfl
    | _ => contradiction
  | fail h hb he hr => cases k with
    | long => omega
    | none => contradiction
    | fail _ _ hr' => have := same hb hr hr'; cases this; rfl
    | more _ _ hr' hp => obtain ⟨h1, rfl⟩ := wrapf (same hb hr hr'); rfl
    | ok _ _ hr' hp => obtain ⟨h1, rfl⟩ := wrapf (same hb hr hr'); rw [hp] at h1; cases h1
  | more h hb he hr hp => cases k with
    | long => omega
    | none => contradiction
    | fail _ _ hr' => have := same hb hr hr'; cases this
    | more _ _ hr' hp => obtain ⟨rfl, rfl, _⟩ := wrapped (same hb hr hr'); rfl
    | ok _ _ hr' hp' => obtain ⟨rfl, rfl, _⟩ := wrapped (same hb hr hr'); contradiction
  | ok h hb he hr hp => cases k with
    | long => omega
    | none => contradiction
    | fail _ _ hr' => have := same hb hr hr'; cases this
    | more _ _ hr' hp' => obtain ⟨rfl, rfl, _⟩ := wrapped (same hb hr hr'); contradiction
    | ok _ _ hr' hp' => obtain ⟨rfl, rfl, _⟩ := wrapped (same hb hr hr'); rfl

/-! ## what it holds of, and its text -/
/-- the document's nodes, each behind what it takes -/
inductive FN where
  | num (field ask : Nat) (n : Int)
  | idt (ask : Nat) (s : List UInt8)
  | not
  | all
  | any
def flat : Nd → List FN
  | .num f k n => [.num f k n]
  | .idt k s => [.idt k s]
  | .not n => flat n ++ [.not]
  | .all a b => flat a ++ flat b ++ [.all]
  | .any a b => flat a ++ flat b ++ [.any]
section
variable (num : Nat → Nat → Int → Bool) (idt : Nat → List UInt8 → Bool)
def holdsOf : Nd → Bool
  | .num f k n => num f k n
  | .idt k s => idt k s
  | .not n => !holdsOf n
  | .all a b => holdsOf a && holdsOf b
  | .any a b => holdsOf a || holdsOf b
/-- the document's stack, the greatest place first; none: it would fall -/
def stepB : List Bool → FN → Option (List Bool)
  | l, .num f k n => some (num f k n :: l)
  | l, .idt k s => some (idt k s :: l)
  | a :: l, .not => some ((!a) :: l)
  | b :: a :: l, .all => some ((a && b) :: l)
  | b :: a :: l, .any => some ((a || b) :: l)
  | _, _ => none
def runB : List Bool → List FN → Option (List Bool)
  | l, [] => some l
  | l, x :: xs => match stepB num idt l x with
    | some l' => runB l' xs
    | none => none
theorem runB_append (xs ys : List FN) : ∀ l, runB num idt l (xs ++ ys) = match runB num idt l xs with | some l' => runB num idt l' ys | none => none := by
  induction xs with
  | nil => intro l; rfl
  | cons x xs ih =>
    intro l
    simp only [List.cons_append, runB]
    cases stepB num idt l x with
    | none => rfl
    | some l' => exact ih l'
theorem runB_flat (n : Nd) : ∀ l, runB num idt l (flat n) = some (holdsOf num idt n :: l) := by
  induction n with
  | num f k n => intro l; rfl
  | idt k s => intro l; rfl
  | not n ih => intro l; rw [flat, runB_append, ih]; rfl
  | all a b iha ihb => intro l; rw [flat, runB_append, runB_append, iha]; simp only []; rw [ihb]; rfl
  | any a b iha ihb => intro l; rw [flat, runB_append, runB_append, iha]; simp only []; rw [ihb]; rfl
end
section
variable (num : Nat → Nat → Int → List UInt8) (idt : Nat → List UInt8 → List UInt8)
def sOr : List UInt8 := [32, 111, 114, 32]
def sAnd : List UInt8 := [32, 97, 110, 100, 32]
def sNot : List UInt8 := [110, 111, 116, 32]
def brk (t : List UInt8) : List UInt8 := 40 :: (t ++ [41])
def rankOf : Nd → Nat
  | .any _ _ => 0
  | .all _ _ => 1
  | _ => 2
/-- the program's -/
def within (r : Nat) (n : Nd) (t : List UInt8) : List UInt8 := if rankOf n < r then brk t else t
def txt : Nd → List UInt8
  | .num f k n => num f k n
  | .idt k s => idt k s
  | .not n => sNot ++ within 2 n (txt n)
  | .all a b => within 1 a (txt a) ++ sAnd ++ within 1 b (txt b)
  | .any a b => txt a ++ sOr ++ txt b
/-- the document's pieces: their texts, and kinds (0 one, 2 and, 3 or) -/
def kindOf (n : Nd) : Nat := match n with | .any _ _ => 3 | .all _ _ => 2 | _ => 0
def stepT : List (List UInt8 × Nat) → FN → Option (List (List UInt8 × Nat))
  | l, .num f k n => some ((num f k n, 0) :: l)
  | l, .idt k s => some ((idt k s, 0) :: l)
  | a :: l, .not => some ((sNot ++ (if a.2 = 2 ∨ a.2 = 3 then brk a.1 else a.1), 0) :: l)
  | b :: a :: l, .all => some (((if a.2 = 3 then brk a.1 else a.1) ++ sAnd ++ (if b.2 = 3 then brk b.1 else b.1), 2) :: l)
  | b :: a :: l, .any => some ((a.1 ++ sOr ++ b.1, 3) :: l)
  | _, _ => none
def runT : List (List UInt8 × Nat) → List FN → Option (List (List UInt8 × Nat))
  | l, [] => some l
  | l, x :: xs => match stepT num idt l x with
    | some l' => runT l' xs
    | none => none
theorem runT_append (xs ys : List FN) : ∀ l, runT num idt l (xs ++ ys) = match runT num idt l xs with | some l' => runT num idt l' ys | none => none := by
  induction xs with
  | nil => intro l; rfl
  | cons x xs ih =>
    intro l
    simp only [List.cons_append, runT]
    cases stepT num idt l x with
    | none => rfl
    | some l' => exact ih l'
theorem within1 (n : Nd) (t : List UInt8) : within 1 n t = if kindOf n = 3 then brk t else t := by cases n <;> rfl
theorem within2 (n : Nd) (t : List UInt8) : within 2 n t = if kindOf n = 2 ∨ kindOf n = 3 then brk t else t := by cases n <;> rfl
theorem runT_flat (n : Nd) : ∀ l, runT num idt l (flat n) = some ((txt num idt n, kindOf n) :: l) := by
  induction n with
  | num f k n => intro l; rfl
  | idt k s => intro l; rfl
  | not n ih => intro l; rw [flat, runT_append, ih]; simp only [runT, stepT, txt, within2]; rfl
  | all a b iha ihb => intro l; rw [flat, runT_append, runT_append, iha]; simp only []; rw [ihb]; simp only [runT, stepT, txt, within1]; rfl
  | any a b iha ihb => intro l; rw [flat, runT_append, runT_append, iha]; simp only []; rw [ihb]; rfl
end
end Go.Proofs.YtkblkdnihppmnaaGreatDoor.Filt
/- A region whose order is left open: one walk of one schedule serves every order, where what only reads yields the same in all worlds that the region can come to, and what writes or calls is forced into one order. No program in sight. -/
namespace Go.Proofs.YtkblkdnihppmnaaGreatDoor
set_option linter.unusedSimpArgs false
set_option linter.unusedVariables false
open Go.RowKit

section
variable {P : Program} {ops : Array Oper} {Q : Exit → Act → World → Prop} {md : Region.Mode} {R : World → World → Prop} {m : Nat}

/-- whatever order is picked; behind each operation, but the one that waits for all, the world is related to the one ahead -/
def wpAnyR (P : Program) (md : Region.Mode) (ops : Array Oper) (Q : Exit → Act → World → Prop) (R : World → World → Prop) (m : Nat) : Nat → Array Bool → Act → World → Prop
  | 0, listed, a, w => Region.ready md ops listed = [] ∧ Q .normal a w
  | fuel + 1, listed, a, w =>
    (Region.ready md ops listed = [] → Q .normal a w) ∧
    ∀ i ∈ Region.ready md ops listed, wpOp P ops Q i (fun a' w' => (i ≠ m → R w w') ∧ wpAnyR P md ops Q R m fuel (listed.setIfInBounds i true) a' w') a w

theorem wpAnyR_any : ∀ (fuel : Nat) (listed : Array Bool) (a : Act) (w : World), wpAnyR P md ops Q R m fuel listed a w → wpAny P md ops Q fuel listed a w
  | 0, _, _, _, h => h
  | fuel + 1, _, _, _, h => ⟨h.1, fun i hi => wpOp_mono (fun a' w' h' => wpAnyR_any fuel _ a' w' h'.2) (h.2 i hi)⟩

/-- what is listed has all that it waits for listed -/
def ClosedL (md : Region.Mode) (ops : Array Oper) (listed : Array Bool) : Prop :=
  ∀ j oj, ops[j]? = some oj → listed.getD j false = true → ∀ e ∈ oj.after, Region.binds md e = true → listed.getD e.on false = true

theorem ClosedL.set {i : Nat} {listed : Array Bool} (h : ClosedL md ops listed) (hi : i ∈ Region.ready md ops listed) : ClosedL md ops (listed.setIfInBounds i true) := by
  obtain ⟨_, oi, hoi, hall⟩ := mem_ready.1 hi
  intro j oj hj hl e he hb
  by_cases hij : i = j
  · subst hij
    have : oj = oi := Option.some.inj (hj.symm.trans hoi)
    subst this
    exact getD_set_true (hall e he hb)
  · rw [getD_set_ne false hij] at hl
    exact getD_set_true (h j oj hj hl e he hb)

/-- does operation j wait for i, directly or through others? -/
def reach (md : Region.Mode) (ops : Array Oper) : Nat → Nat → Nat → Bool
  | 0, _, _ => false
  | f + 1, j, i => match ops[j]? with
    | some oj => oj.after.any fun e => Region.binds md e && (e.on == i || reach md ops f e.on i)
    | none => false

theorem reach_listed {listed : Array Bool} (hc : ClosedL md ops listed) : ∀ (f j i : Nat), (∀ oj, ops[j]? = some oj → ∀ e ∈ oj.after, Region.binds md e = true → listed.getD e.on false = true) →
    reach md ops f j i = true → listed.getD i false = true
  | 0, _, _, _, h => by simp [reach] at h
  | f + 1, j, i, hp, h => by
    unfold reach at h
    split at h
    · rename_i oj hj
      obtain ⟨e, he, hb⟩ := Array.any_eq_true'.1 h
      simp only [Bool.and_eq_true, Bool.or_eq_true, beq_iff_eq] at hb
      have hl := hp oj hj e he hb.1
      rcases hb.2 with h1 | h1
      · rw [← h1]; exact hl
      · exact reach_listed hc f e.on i (fun o ho e' he' hb' => hc e.on o ho hl e' he' hb') h1
    · cases h

/-- m waits for all others (or is none of them) -/
def lastB (md : Region.Mode) (ops : Array Oper) (m : Nat) : Bool :=
  decide (ops.size ≤ m) || (List.range ops.size).all fun i => i == m || reach md ops ops.size m i

theorem getD_false_of {listed : Array Bool} {i : Nat} (h : listed.getD i true = false) : listed.getD i false = false := by
  rcases Nat.lt_or_ge i listed.size with h' | h'
  · simp [h'] at h ⊢; exact h
  · simp [Array.getElem?_eq_none h'] at h

theorem last_not_ready {listed : Array Bool} (hc : ClosedL md ops listed) (hl : lastB md ops m = true) {i : Nat} (hi : i < ops.size) (him : i ≠ m) (hun : listed.getD i true = false) : m ∉ Region.ready md ops listed := by
  intro hr
  obtain ⟨_, om, hom, hall⟩ := mem_ready.1 hr
  have hml : m < ops.size := (Array.getElem?_eq_some_iff.1 hom).1
  simp only [lastB, Bool.or_eq_true, decide_eq_true_eq, List.all_eq_true, List.mem_range, beq_iff_eq] at hl
  rcases hl with hl | hl
  · omega
  · rcases hl i hi with h | h
    · exact him h
    · have := reach_listed hc ops.size m i (fun oj hoj => by
        have : oj = om := Option.some.inj (hoj.symm.trans hom)
        subst this
        exact hall) h
      rw [getD_false_of hun] at this
      cases this

theorem wpAnyR_first (hrefl : ∀ w, R w w) (htrans : ∀ a b c, R a b → R b c → R a c) (hlast : lastB md ops m = true) {i : Nat} {oi : Oper} {v : Value} (hi : ops[i]? = some oi) (him : i ≠ m)
    (hsel : ∀ (j : Nat) (o : Oper) cs b, ops[j]? = some o → o.op ≠ .select cs b) (hQ : ∀ c a w, Q (.panic c) (a.put oi.dst v) w → Q (.panic c) a w) :
    ∀ (fuel : Nat) (listed : Array Bool) (a : Act) (w : World), ClosedL md ops listed →
      (∀ j oj, ops[j]? = some oj → j ≠ i → listed.getD j true = false → (∀ e ∈ oj.after, Region.binds md e = true → e.on ≠ i) → oi.apart ops oj = true) →
      i ∈ Region.ready md ops listed → YieldsIf P ops (R w) oi v a →
      wpAnyR P md ops Q R m fuel (listed.setIfInBounds i true) (a.put oi.dst v) w → wpAnyR P md ops Q R m (fuel + 1) listed a w := by
  intro fuel
  induction fuel with
  | zero =>
    intro listed a w _ _ hr hy H
    refine ⟨fun h => (by rw [h] at hr; cases hr), fun j hj => ?_⟩
    by_cases hji : j = i
    · subst hji; exact hy.wpOp hi (hrefl w) ⟨fun _ => hrefl w, H⟩
    · have := ready_mono hj hji
      rw [H.1] at this
      cases this
  | succ fuel ih =>
    intro listed a w hc hfree hr hy H
    refine ⟨fun h => (by rw [h] at hr; cases hr), fun j hj => ?_⟩
    by_cases hji : j = i
    · subst hji; exact hy.wpOp hi (hrefl w) ⟨fun _ => hrefl w, H⟩
    · have h1 := H.2 j (ready_mono hj hji)
      obtain ⟨hjun, oj, hoj, hall⟩ := mem_ready.1 hj
      have hiun := (mem_ready.1 hr).1
      have hjm : j ≠ m := by
        rintro rfl
        exact last_not_ready hc hlast (Array.getElem?_eq_some_iff.1 hi).1 him hiun hj
      have hnot : ∀ e ∈ oj.after, Region.binds md e = true → e.on ≠ i := fun e he hb heq => by
        have h1 := hall e he hb
        rw [heq, getD_false_of hiun] at h1
        cases h1
      have h2 := wpOp_putIf hoj (hfree j oj hoj hji hjun hnot) (fun cs b => hsel i oi cs b hi) (fun cs b => hsel j oj cs b hoj) hQ hy h1
      have hfree' : ∀ k ok, ops[k]? = some ok → k ≠ i → (listed.setIfInBounds j true).getD k true = false →
          (∀ e ∈ ok.after, Region.binds md e = true → e.on ≠ i) → oi.apart ops ok = true := fun k ok hk hki hun hno => by
        refine hfree k ok hk hki ?_ hno
        by_cases hjk : j = k
        · subst hjk; exact hjun
        · rw [getD_set_ne true hjk] at hun; exact hun
      refine wpOp_mono (fun a' w' h3 => ⟨h3.2.1, ih (listed.setIfInBounds j true) a' w' (hc.set hj) hfree' (ready_mono hr (Ne.symm hji)) ?_ ?_⟩) h2
      · have hR := h3.2.1 hjm
        rcases h3.1 with ⟨hw, hv⟩ | hh
        · exact .inl ⟨hw, fun w'' hw'' => hv w'' (htrans _ _ _ hR hw'')⟩
        · exact .inr hh
      · rw [Array.setIfInBounds_comm _ _ hji]
        exact h3.2.2

/-- the walk of one schedule: (i, true): operation i only reads; (i, false): it does something, and nothing else may come up then -/
def wpSch (P : Program) (ops : Array Oper) (Q : Exit → Act → World → Prop) (R : World → World → Prop) (m : Nat) : List (Nat × Bool) → Act → World → Prop
  | [], a, w => Q .normal a w
  | (i, true) :: rest, a, w => ∃ oi v, ops[i]? = some oi ∧ YieldsIf P ops (R w) oi v a ∧ wpSch P ops Q R m rest (a.put oi.dst v) w
  | (i, false) :: rest, a, w => wpOp P ops Q i (fun a' w' => (i ≠ m → R w w') ∧ wpSch P ops Q R m rest a' w') a w

def schOk (md : Region.Mode) (ops : Array Oper) (m : Nat) : List (Nat × Bool) → Array Bool → Bool
  | [], listed => (Region.ready md ops listed).isEmpty
  | (i, true) :: rest, listed => i != m && (Region.ready md ops listed).contains i && Region.free md ops listed i && schOk md ops m rest (listed.setIfInBounds i true)
  | (i, false) :: rest, listed => decide (Region.ready md ops listed = [i]) && schOk md ops m rest (listed.setIfInBounds i true)

theorem wpAnyR_of_sch (hrefl : ∀ w, R w w) (htrans : ∀ a b c, R a b → R b c → R a c) (hlast : lastB md ops m = true) (hs : Region.noSelect ops = true)
    (hQ : ∀ c a d v w, Q (.panic c) (Act.put a d v) w → Q (.panic c) a w) : ∀ (sch : List (Nat × Bool)) (listed : Array Bool) (a : Act) (w : World), ClosedL md ops listed → schOk md ops m sch listed = true →
    wpSch P ops Q R m sch a w → wpAnyR P md ops Q R m sch.length listed a w
  | [], listed, a, w, _, hB, h => ⟨by simpa [schOk] using hB, h⟩
  | (i, true) :: rest, listed, a, w, hc, hB, h => by
    obtain ⟨oi, v, hoi, hy, hk⟩ := h
    simp only [schOk, Bool.and_eq_true, bne_iff_ne, ne_eq] at hB
    obtain ⟨⟨⟨him, hr⟩, hf⟩, hB'⟩ := hB
    have hr' : i ∈ Region.ready md ops listed := by simpa using hr
    exact wpAnyR_first hrefl htrans hlast hoi him (Region.noSelect_spec hs) (fun c a w => hQ c a oi.dst v w) rest.length listed a w hc (Region.free_spec hoi hf) hr' hy
      (wpAnyR_of_sch hrefl htrans hlast hs hQ rest _ _ w (hc.set hr') hB' hk)
  | (i, false) :: rest, listed, a, w, hc, hB, h => by
    simp only [schOk, Bool.and_eq_true, decide_eq_true_eq] at hB
    refine ⟨fun h0 => (by rw [hB.1] at h0; cases h0), fun j hj => ?_⟩
    have hr' : i ∈ Region.ready md ops listed := by rw [hB.1]; simp
    rw [hB.1] at hj
    obtain rfl : j = i := by simpa using hj
    exact wpOp_mono (fun a' w' h' => ⟨h'.1, wpAnyR_of_sch hrefl htrans hlast hs hQ rest _ a' w' (hc.set hr') hB.2 h'.2⟩) h

def regionOk (ops : Array Oper) (m : Nat) (sch : List (Nat × Bool)) : Bool :=
  Region.noSelect ops && lastB .any ops m && decide (sch.length = ops.size) && schOk .any ops m sch (Array.replicate ops.size false)

theorem rep_false (k j : Nat) : (Array.replicate k false).getD j false = false := by
  rcases Nat.lt_or_ge j k with h | h
  · simp [h]
  · simp [h]

theorem wp_region_sch {id : Nat} {l : List Oper} (R : World → World → Prop) (m : Nat) (sch : List (Nat × Bool)) (hm : P.follows .mixedOrders = true) (hB : regionOk l.toArray m sch = true)
    (hrefl : ∀ w, R w w) (htrans : ∀ a b c, R a b → R b c → R a c) {a : Act} {w : World} (hQ : ∀ c a d v w, Q (.panic c) (Act.put a d v) w → Q (.panic c) a w)
    (h : wpSch P l.toArray Q R m sch a w.drew) : (Code.region id l.toArray true).wp P Q a w := by
  simp only [regionOk, Bool.and_eq_true, decide_eq_true_eq] at hB
  obtain ⟨⟨⟨hs, hl⟩, hn⟩, hok⟩ := hB
  refine wp_region_any hm ?_
  have hc : ClosedL .any l.toArray (Array.replicate l.toArray.size false) := fun j oj hj hlj => by
    have := rep_false l.toArray.size j
    rw [this] at hlj
    cases hlj
  have := wpAnyR_of_sch hrefl htrans hl hs hQ sch _ a w.drew hc hok h
  rw [hn] at this
  exact wpAnyR_any _ _ _ _ this

/-- a step that only reads -/
theorem wpSch_q {l : List Oper} {i : Nat} {o : Oper} {rest : List (Nat × Bool)} {a : Act} {w : World} (v : Value) (ho : l[i]? = some o) (hw : Region.wanted o (yielded l.toArray a.tmps) = true)
    (h : ∀ w', R w w' → (execOp a.eval o).run P w' = .ok (.value v) w') (hk : wpSch P l.toArray Q R m rest (a.put o.dst v) w) : wpSch P l.toArray Q R m ((i, true) :: rest) a w :=
  ⟨o, v, by simpa using ho, .inl ⟨hw, h⟩, hk⟩
theorem wpSch_skip {l : List Oper} {i : Nat} {b : Bool} {o : Oper} {rest : List (Nat × Bool)} {a : Act} {w : World} (hrefl : ∀ w, R w w) (ho : l[i]? = some o) (hw : Region.wanted o (yielded l.toArray a.tmps) = false)
    (hk : wpSch P l.toArray Q R m rest (a.put o.dst undef) w) : wpSch P l.toArray Q R m ((i, b) :: rest) a w := by
  have ho' : l.toArray[i]? = some o := by simpa using ho
  cases b
  · unfold wpSch wpOp
    simp only [ho', hw, Bool.false_eq_true, if_false]
    exact ⟨fun _ => hrefl w, hk⟩
  · exact ⟨o, undef, ho', .inr ⟨hw, rfl⟩, hk⟩
/-- a step that does something -/
theorem wpSch_e {l : List Oper} {i : Nat} {o : Oper} {rest : List (Nat × Bool)} {a : Act} {w : World} (ho : l[i]? = some o) (hw : Region.wanted o (yielded l.toArray a.tmps) = true)
    (h : ∀ K : Act → World → Prop, (∀ a' w', (i ≠ m → R w w') → wpSch P l.toArray Q R m rest a' w' → K a' w') → o.wp P a w K Q) : wpSch P l.toArray Q R m ((i, false) :: rest) a w := by
  have ho' : l.toArray[i]? = some o := by simpa using ho
  unfold wpSch wpOp
  simp only [ho', hw, if_true]
  exact .inl (h _ fun a' w' h1 h2 => ⟨h1, h2⟩)
theorem wpSch_nil {a : Act} {w : World} (h : Q .normal a w) : wpSch P ops Q R m [] a w := h
end

/-- of the blocks that S names, as far as they are there, nothing turns -/
def RS (S : Nat → Prop) (w w' : World) : Prop := w.heap.size ≤ w'.heap.size ∧ ∀ b o, S b → b < w.heap.size → w'.cell? ⟨b, o, none⟩ = w.cell? ⟨b, o, none⟩
namespace RS
variable {S : Nat → Prop} {w w' : World}
theorem refl (w : World) : RS S w w := ⟨Nat.le_refl _, fun _ _ _ _ => rfl⟩
theorem trans (a b c : World) (h : RS S a b) (k : RS S b c) : RS S a c := ⟨Nat.le_trans h.1 k.1, fun x o hs hx => (k.2 x o hs (Nat.lt_of_lt_of_le hx h.1)).trans (h.2 x o hs hx)⟩
theorem ext (h : Ext w w') : RS S w w' := ⟨h.size, fun b o _ hb => h.cell (p := ⟨b, o, none⟩) hb⟩
theorem alloc (o : Obj) : RS S w (w.alloc o) := ext (Ext.al w o)
theorem setCell {g i : Nat} (u : Value) (h : ¬ S g) : RS S w (w.setCell ⟨g, i, none⟩ u) :=
  ⟨by simp [World.setCell], fun b o hs _ => World.cell?_setCell_other w _ _ u (by rintro e; cases e; exact h hs)⟩
theorem box {t : TypeId} {cs : Array Value} {g : Nat} (hz : w.heap.size ≤ w'.heap.size) (h : Box w g t cs) (h' : Box w' g t cs) : RS (· = g) w w' :=
  ⟨hz, fun b o hs _ => by subst hs; rw [h.cell, h'.cell]⟩
end RS
end Go.Proofs.YtkblkdnihppmnaaGreatDoor
/- What stays: a frame by blocks. No program in sight. -/
namespace Go.Proofs.YtkblkdnihppmnaaGreatDoor
set_option linter.unusedSimpArgs false
set_option linter.unusedVariables false
open Go.RowKit

/-- of the blocks that are there, those that S names stay as they are -/
structure Fr (S : Nat → Prop) (w w' : World) : Prop where
  os : w'.os = w.os
  tape : w'.tape = w.tape
  output : w'.output = w.output
  size : w.heap.size ≤ w'.heap.size
  block : ∀ b, b < w.heap.size → S b → w'.heap[b]? = w.heap[b]?
namespace Fr
variable {S S' : Nat → Prop} {w w' a b c : World}
theorem refl (w : World) : Fr S w w := ⟨rfl, rfl, rfl, Nat.le_refl _, fun _ _ _ => rfl⟩
theorem trans (h : Fr S a b) (k : Fr S b c) : Fr S a c :=
  ⟨k.os.trans h.os, k.tape.trans h.tape, k.output.trans h.output, Nat.le_trans h.size k.size, fun j hj hs => (k.block j (Nat.lt_of_lt_of_le hj h.size) hs).trans (h.block j hj hs)⟩
theorem mono (h : Fr S a b) (hs : ∀ x, x < a.heap.size → S' x → S x) : Fr S' a b := ⟨h.os, h.tape, h.output, h.size, fun j hj hj' => h.block j hj (hs j hj hj')⟩
theorem of_ext (h : Ext w w') : Fr S w w' := ⟨h.os, h.tape, h.output, h.size, fun j hj _ => h.block j hj⟩
theorem ext (h : Fr S w w') (k : ∀ x, x < w.heap.size → S x) : Ext w w' := ⟨h.os, h.tape, h.output, h.size, fun j hj => h.block j hj (k j hj)⟩
theorem of_grown {row : Option Nat} (h : w.grownBy w' row) (hr : ∀ g, row = some g → g < w.heap.size → ¬ S g) : Fr S w w' :=
  ⟨h.os, h.tape, h.output, h.size, fun j hj hs => h.block j hj fun e => hr j e.symm hj hs⟩
theorem al (w : World) (o : Obj) : Fr S w (w.alloc o) := of_ext (Ext.al w o)
theorem alloc (h : Fr S a w) (o : Obj) : Fr S a (w.alloc o) := h.trans (al w o)
theorem drew (h : Fr S a w) : Fr S a w.drew := h.trans (of_ext (Ext.dr w))
theorem drewN (h : Fr S a w) (n : Nat) : Fr S a (w.drewN n) := ⟨h.os, h.tape, h.output, h.size, h.block⟩
theorem set (h : Fr S a w) {p : Addr} (u : Value) (hp : p.block < a.heap.size → ¬ S p.block) : Fr S a (w.setCell p u) :=
  ⟨h.os, h.tape, h.output, by simpa [World.setCell] using h.size, fun k hk hs => (Below.heap_setCell w p u k (fun e => by subst e; exact hp hk hs)).trans (h.block k hk hs)⟩
/-- a step whose own frame names more than ours -/
theorem step (h : Fr S a b) (k : Fr S' b c) (hs : ∀ x, x < a.heap.size → S x → S' x) : Fr S a c :=
  ⟨k.os.trans h.os, k.tape.trans h.tape, k.output.trans h.output, Nat.le_trans h.size k.size, fun j hj hj' => (k.block j (Nat.lt_of_lt_of_le hj h.size) (hs j hj hj')).trans (h.block j hj hj')⟩
theorem ext_step (h : Fr S a b) (k : Ext b c) : Fr S a c := h.trans (of_ext k)
end Fr
/-- all but block g -/
abbrev Chg (g : Nat) (w w' : World) : Prop := Fr (· ≠ g) w w'
theorem Chg.of_ext {g : Nat} {w w' : World} (h : Ext w w') : Chg g w w' := Fr.of_ext h
theorem Chg.refl (g : Nat) (w : World) : Chg g w w := Fr.refl w
theorem Chg.set {g i : Nat} {w w' : World} (h : Chg g w w') (v : Value) : Chg g w (w'.setCell ⟨g, i, none⟩ v) := Fr.set h v (fun _ k => k rfl)
theorem Box.fr {S : Nat → Prop} {w w' : World} {g : Nat} {t : TypeId} {cs : Array Value} (h : Box w g t cs) (hf : Fr S w w') (hs : S g) : Box w' g t cs := h.keep (hf.block g h.lt hs)
theorem Row.fr {S : Nat → Prop} {w w' : World} {lo hi sz n : Nat} {A : Option Addr} {xs : List Value} (h : Row w lo hi sz A n xs) (hf : Fr S w w') (hh : hi ≤ w.heap.size) (hs : ∀ b, lo ≤ b → b < hi → S b) : Row w' lo hi sz A n xs :=
  h.keep fun b h1 h2 => hf.block b (by omega) (hs b h1 h2)
theorem Own.fr {α : Type} {S : Nat → Prop} {w w' : World} {base : Nat} {e : TypeId} {f : α → List Value} {sz : Nat} {A : Option Addr} {c : Nat} {l : List α} (h : Own w base e f sz A c l) (hf : Fr S w w') (hs : ∀ b, base ≤ b → b < w.heap.size → S b) :
    Own w' base e f sz A c l := h.keep fun b h1 h2 => hf.block b h2 (hs b h1 h2)
theorem Box.drew {w : World} {g : Nat} {t : TypeId} {cs : Array Value} (h : Box w g t cs) : Box w.drew g t cs := h
theorem RS.fr {S S' : Nat → Prop} {w w' : World} (h : Fr S' w w') (hs : ∀ b, b < w.heap.size → S b → S' b) : RS S w w' :=
  ⟨h.size, fun b o h1 h2 => World.cell?_of_block (w := w) (a := ⟨b, o, none⟩) (h.block b h2 (hs b h2 h1))⟩

end Go.Proofs.YtkblkdnihppmnaaGreatDoor
/- Memory of a call's own, as a list of what lies in it: each thing has blocks of its own. No program in sight. -/
namespace Go.Proofs.YtkblkdnihppmnaaGreatDoor
set_option linter.unusedSimpArgs false
set_option linter.unusedVariables false
open Go.RowKit

/-- a slot is written by the kit's own program, not by simp: the goal turns into one of a move of a constant -/
theorem fastK (P : Program) {K : Act → World → Prop} {a : Act} {d : Tmp} {dst : Option Tmp} {v : Value} {w : World} (hd : dst = some d) (h : (Oper.mk (some d) (.move (.const v)) 0 "" #[] none).wp P a w K (fun _ _ _ => True)) : K (a.put dst v) w := by subst hd; exact h
theorem fastN {K : Act → World → Prop} {a : Act} {dst : Option Tmp} {v : Value} {w : World} (hd : dst = none) (h : K a w) : K (a.put dst v) w := by subst hd; exact h

/-- a block of cells; a slice that owns its row -/
inductive Res : Type 1 where
  | bx (g : Nat) (t : TypeId) (cs : List Value)
  | ow {α : Type} (e : TypeId) (f : α → List Value) (sz : Nat) (A : Option Addr) (c : Nat) (l : List α)
namespace Res
def fp : Res → Nat → Prop
  | bx g _ _, b => b = g
  | ow _ _ _ A _ _, b => ownBlk A = some b
def at_ : Res → World → Prop
  | bx g t cs, w => Box w g t cs.toArray
  | ow e f sz A c l, w => Own w 0 e f sz A c l
theorem low {r : Res} {w : World} {b : Nat} (h : r.at_ w) (hb : r.fp b) : b < w.heap.size := by
  cases r with
  | bx g t cs => obtain rfl : b = g := hb; exact Box.lt h
  | ow e f sz A c l => exact (Own.blk h b hb).2
theorem keep {r : Res} {w w' : World} (h : r.at_ w) (hk : ∀ b, r.fp b → w'.heap[b]? = w.heap[b]?) : r.at_ w' := by
  cases r with
  | bx g t cs => exact Box.keep h (hk g rfl)
  | ow e f sz A c l =>
    obtain ⟨h1, h2⟩ := h
    refine ⟨h1, ?_⟩
    rcases h2 with h2 | ⟨g, cap, cur, hv, hg, hh, r⟩
    · exact .inl h2
    · refine .inr ⟨g, cap, cur, hv, hg, (hk g ?_).trans hh, r⟩
      injection hv with hv
      show ownBlk A = some g
      rw [hv]; rfl
end Res
open Res

/-- one of the list, and the list with another one in its place -/
inductive Pick : List Res → Res → (Res → List Res) → Prop where
  | head {c : Res} {l : List Res} : Pick (c :: l) c (fun d => d :: l)
  | tail {b c : Res} {l : List Res} {f : Res → List Res} : Pick l c f → Pick (b :: l) c (fun d => b :: f d)
theorem Pick.split {l : List Res} {c : Res} {f : Res → List Res} (h : Pick l c f) : ∃ A B, l = A ++ c :: B ∧ ∀ d, f d = A ++ d :: B := by
  induction h with
  | head => exact ⟨[], _, rfl, fun _ => rfl⟩
  | tail _ ih =>
    obtain ⟨A, B, e, k⟩ := ih
    exact ⟨_ :: A, B, by rw [e]; rfl, fun d => congrArg (_ :: ·) (k d)⟩
theorem Pick.mem {l : List Res} {c : Res} {f : Res → List Res} (h : Pick l c f) : c ∈ l := by
  obtain ⟨A, B, rfl, _⟩ := h.split
  simp

/-- what the call's own memory holds at w: the blocks that S names are as they were at w0 -/
structure Mem (S : Nat → Prop) (w0 : World) (l : List Res) (w : World) : Prop where
  fr : Fr S w0 w
  lo : ∀ x, S x → x < w0.heap.size
  all : ∀ r ∈ l, r.at_ w
  out : ∀ r ∈ l, ∀ b, r.fp b → ¬ S b
  apart : l.Pairwise fun r s => ∀ b, r.fp b → ¬ s.fp b
namespace Mem
variable {S : Nat → Prop} {w0 w w' : World} {l : List Res}
theorem start (w : World) : Mem (· < w.heap.size) w [] w := ⟨Fr.refl w, fun _ h => h, by simp, by simp, List.Pairwise.nil⟩
theorem ext (M : Mem S w0 l w) (h : Ext w w') : Mem S w0 l w' :=
  ⟨M.fr.ext_step h, M.lo, fun r hr => Res.keep (M.all r hr) fun b hb => h.block b (Res.low (M.all r hr) hb), M.out, M.apart⟩
theorem drew (M : Mem S w0 l w) : Mem S w0 l w.drew := M.ext (Ext.dr w)
theorem new (M : Mem S w0 l w) (h : Ext w w') (r : Res) (hr : r.at_ w') (hf : ∀ b, r.fp b → w.heap.size ≤ b) : Mem S w0 (r :: l) w' := by
  have M' := M.ext h
  refine ⟨M'.fr, M.lo, fun s hs => ?_, fun s hs b hb hS => ?_, List.pairwise_cons.2 ⟨fun s hs b hb hb' => ?_, M.apart⟩⟩
  · rcases List.mem_cons.1 hs with rfl | hs
    · exact hr
    · exact M'.all s hs
  · rcases List.mem_cons.1 hs with rfl | hs
    · have := hf b hb
      have := M.lo b hS
      have := M.fr.size
      omega
    · exact M.out s hs b hb hS
  · have := hf b hb
    have := Res.low (M.all s hs) hb'
    omega
theorem al (M : Mem S w0 l w) (t : TypeId) (cs : List Value) : Mem S w0 (bx w.heap.size t cs :: l) (w.alloc (.cells cs.toArray t)) :=
  M.new (Ext.al w _) (bx w.heap.size t cs) (Box.new w t _) (fun b hb => Nat.le_of_eq (Eq.symm hb))
theorem nil_ (M : Mem S w0 l w) {α : Type} (e : TypeId) (f : α → List Value) (sz : Nat) : Mem S w0 (ow e f sz none 0 [] :: l) w :=
  M.new (Below.refl _ _) _ (Own.nil_ (f := f)) (fun b hb => by cases hb)
theorem put {r : Res} {f : Res → List Res} (M : Mem S w0 l w) (p : Pick l r f) (h : Fr (fun b => ¬ r.fp b) w w') (r' : Res) (hr : r'.at_ w') (hf : ∀ b, r'.fp b → r.fp b ∨ w.heap.size ≤ b) : Mem S w0 (f r') w' := by
  obtain ⟨A, B, rfl, hk⟩ := p.split
  rw [hk]
  have hap := List.pairwise_append.1 M.apart
  have hap2 := List.pairwise_cons.1 hap.2.1
  have hlow : ∀ s ∈ A ++ r :: B, ∀ b, s.fp b → b < w.heap.size := fun s hs b hb => Res.low (M.all s hs) hb
  have hA : ∀ s ∈ A, ∀ b, s.fp b → ¬ r.fp b := fun s hs b => hap.2.2 s hs r (by simp) b
  have hB : ∀ s ∈ B, ∀ b, s.fp b → ¬ r.fp b := fun s hs b hb hr => hap2.1 s hs b hr hb
  have hr' : ∀ s, (s ∈ A ∨ s ∈ B) → ∀ b, r'.fp b → ¬ s.fp b := fun s hs b hb hsb => by
    have hm : s ∈ A ++ r :: B := by rcases hs with hs | hs <;> simp [hs]
    rcases hf b hb with h1 | h1
    · rcases hs with hs | hs
      · exact hA s hs b hsb h1
      · exact hB s hs b hsb h1
    · have := hlow s hm b hsb; omega
  refine ⟨M.fr.step h (fun x _ hS hrx => M.out r (by simp) x hrx hS), M.lo, fun s hs => ?_, fun s hs b hb hS => ?_, ?_⟩
  · rcases List.mem_append.1 hs with hs | hs
    · exact Res.keep (M.all s (by simp [hs])) fun b hb => h.block b (hlow s (by simp [hs]) b hb) (hA s hs b hb)
    · rcases List.mem_cons.1 hs with rfl | hs
      · exact hr
      · exact Res.keep (M.all s (by simp [hs])) fun b hb => h.block b (hlow s (by simp [hs]) b hb) (hB s hs b hb)
  · rcases List.mem_append.1 hs with hs | hs
    · exact M.out s (by simp [hs]) b hb hS
    · rcases List.mem_cons.1 hs with rfl | hs
      · rcases hf b hb with h1 | h1
        · exact M.out r (by simp) b h1 hS
        · have := M.lo b hS
          have := M.fr.size
          omega
      · exact M.out s (by simp [hs]) b hb hS
  · refine List.pairwise_append.2 ⟨hap.1, List.pairwise_cons.2 ⟨fun s hs b hb => hr' s (.inr hs) b hb, hap2.2⟩, fun s hs t ht b hb => ?_⟩
    rcases List.mem_cons.1 ht with rfl | ht
    · exact fun hb' => hr' s (.inl hs) b hb' hb
    · exact hap.2.2 s hs t (by simp [ht]) b hb
theorem get {r : Res} {f : Res → List Res} (M : Mem S w0 l w) (p : Pick l r f) : r.at_ w := M.all r p.mem
theorem box {g : Nat} {t : TypeId} {cs : List Value} {f : Res → List Res} (M : Mem S w0 l w) (p : Pick l (bx g t cs) f) : Box w g t cs.toArray := M.get p
theorem own {α : Type} {e : TypeId} {f : α → List Value} {sz : Nat} {A : Option Addr} {c : Nat} {xs : List α} {F : Res → List Res} (M : Mem S w0 l w) (p : Pick l (ow e f sz A c xs) F) : Own w 0 e f sz A c xs := M.get p
theorem set {g : Nat} {t : TypeId} {cs : List Value} {f : Res → List Res} (M : Mem S w0 l w) (p : Pick l (bx g t cs) f) (i : Nat) (v : Value) : Mem S w0 (f (bx g t (cs.set i v))) (w.setCell ⟨g, i, none⟩ v) :=
  M.put p (Fr.set (p := ⟨g, i, none⟩) (Fr.refl w) v (fun _ h => h (rfl : g = g))) _ (by
    have := (M.box p).put i v
    show Box _ g t (cs.set i v).toArray
    simpa using this) (fun _ h => .inl h)
theorem ext_of (M : Mem (· < w.heap.size) w l w') : Ext w w' := M.fr.ext fun _ h => h
end Mem

/-! ## the operations -/
abbrev OneT (P : Program) (t : TypeId) : Prop := ∀ w, (isAgg t).run P w = .ok false w ∧ (sizeOf t).run P w = .ok 1 w
abbrev RowT (P : Program) (t : TypeId) (n : Nat) : Prop := ∀ w, (isAgg t).run P w = .ok true w ∧ (sizeOf t).run P w = .ok n w
section
variable {P : Program} {S : Nat → Prop} {w0 w : World} {l : List Res} {o : Oper} {a : Act} {K : Act → World → Prop} {Q : Exit → Act → World → Prop}

theorem run_loadVar_one {t : TypeId} (ht : OneT P t) {p : Addr} {v : Value} (hv : w.cell? p = some v) : (loadVar t p).run P w = .ok v w := by
  simp [loadVar, Sem.run_bind, (ht w).1, run_load, hv]
theorem run_loadVar_cells {t : TypeId} {g i : Nat} {cs : List Value} (ht : RowT P t cs.length) (hc : ∀ j u, cs[j]? = some u → w.cell? ⟨g, i + j, none⟩ = some u) : (loadVar t ⟨g, i, none⟩).run P w = .ok (.agg cs.toArray) w := by
  have hl : (loadCells ⟨g, i, none⟩ cs.length).run P w = .ok cs.toArray w :=
    run_loadCells_list (P := P) w ⟨g, i, none⟩ cs (fun j v hv => by rw [Addr.add_mid]; exact hc j v hv)
  simp [loadVar, Sem.run_bind, (ht w).1, (ht w).2, hl]
theorem run_loadVar_box {t u : TypeId} {g : Nat} {cs : List Value} (ht : RowT P t cs.length) (hb : Box w g u cs.toArray) : (loadVar t ⟨g, 0, none⟩).run P w = .ok (.agg cs.toArray) w :=
  run_loadVar_cells ht fun j v hv => by rw [Nat.zero_add, hb.cell]; simpa using hv

theorem wp_load1 (M : Mem S w0 l w) (t : TypeId) (x : Operand) (ho : o.op = .load t x) (g i : Nat) (hx : a.eval x = .pointer (some ⟨g, i, none⟩)) {u : TypeId} {cs : List Value} {f : Res → List Res}
    (p : Pick l (bx g u cs) f) (hn : OneT P t) (v : Value) (hv : cs[i]? = some v) (h : K (a.put o.dst v) w) : o.wp P a w K Q := by
  have hc : w.cell? ⟨g, i, none⟩ = some v := by rw [(M.box p).cell]; simpa using hv
  unfold Oper.wp execOp
  simp only [ho, hx, Instr.loadAt, Instr.sureAddr, Sem.run_bind, Sem.run_pure, Result.andThen_ok, run_loadVar_one hn hc]
  exact h
theorem wp_loadN (M : Mem S w0 l w) (t : TypeId) (x : Operand) (ho : o.op = .load t x) (g : Nat) (hx : a.eval x = .pointer (some ⟨g, 0, none⟩)) {u : TypeId} {cs : List Value} {f : Res → List Res}
    (p : Pick l (bx g u cs) f) (hn : RowT P t cs.length) (h : K (a.put o.dst (.agg cs.toArray)) w) : o.wp P a w K Q := by
  unfold Oper.wp execOp
  simp only [ho, hx, Instr.loadAt, Instr.sureAddr, Sem.run_bind, Sem.run_pure, Result.andThen_ok, run_loadVar_box hn (M.box p)]
  exact h
theorem ex_load1 {w' : World} (t : TypeId) (x : Operand) (ho : o.op = .load t x) (p : Addr) (hx : a.eval x = .pointer (some p)) (hn : OneT P t) (v : Value) (hv : w'.cell? p = some v) : (execOp a.eval o).run P w' = .ok (.value v) w' := by
  unfold execOp
  simp only [ho, hx, Instr.loadAt, Instr.sureAddr, Sem.run_bind, Sem.run_pure, Result.andThen_ok, run_loadVar_one hn hv]
theorem run_store_setCells {t : TypeId} {g i : Nat} {v : Value} {ws : List Value} {u : TypeId} {cs : Array Value} (hb : Box w g u cs) (hi : i + ws.length ≤ cs.size) (hv : v.cells = ws.toArray) (hn : (sizeOf t).run P w = .ok ws.length w) (h1 : ws.all (·.oneCell') = true) :
    (storeVar t ⟨g, i, none⟩ v).run P w = .ok () (w.setCells g i ws) := by
  have := run_storeCells_cells (P := P) g i ws 0 w (fun j hj => by rw [hb.cell]; simp; omega) (fun j hj => hb.frozen _) (fun v hv => (List.all_eq_true.1 h1) v hv)
  simp only [Nat.add_zero] at this
  simp [storeVar, Sem.run_bind, hn, hv, this]
theorem box_setCells {g : Nat} {u : TypeId} : ∀ (ws A B : List Value) (w : World), Box w g u (A ++ (B.take ws.length) ++ B.drop ws.length).toArray → ws.length ≤ B.length → Box (w.setCells g A.length ws) g u (A ++ ws ++ B.drop ws.length).toArray ∧ Fr (· ≠ g) w (w.setCells g A.length ws)
  | [], A, B, w, h, _ => ⟨by simpa [World.setCells] using h, by simpa [World.setCells] using Fr.refl w⟩
  | v :: ws, A, [], w, _, hl => by simp at hl
  | v :: ws, A, b :: B, w, h, hl => by
    have h1 := h.put A.length v
    have h2 : ((A ++ List.take (v :: ws).length (b :: B) ++ List.drop (v :: ws).length (b :: B)).toArray.setIfInBounds A.length v) = ((A ++ [v]) ++ B.take ws.length ++ B.drop ws.length).toArray := by
      simp
    rw [h2] at h1
    obtain ⟨h3, h4⟩ := box_setCells ws (A ++ [v]) B _ h1 (by simpa using hl)
    have e : (A ++ [v]).length = A.length + 1 := by simp
    rw [e] at h3 h4
    refine ⟨?_, ?_⟩
    · simpa [World.setCells] using h3
    · exact ((Fr.refl w).set v (fun _ h => h rfl)).trans h4
/-- a value's cells -/
inductive CellsOf : Value → List Value → Prop where
  | agg (cs : List Value) : CellsOf (.agg cs.toArray) cs
  | int (k : IntKind) (n : Int) : CellsOf (.int k n) [.int k n]
  | str (s : ByteArray) : CellsOf (.string s) [.string s]
  | bool (b : Bool) : CellsOf (.bool b) [.bool b]
  | slice (A : Option Addr) (n c : Nat) : CellsOf (.slice A n c) [.slice A n c]
  | pointer (p : Option Addr) : CellsOf (.pointer p) [.pointer p]
theorem CellsOf.eq {v : Value} {cs : List Value} (h : CellsOf v cs) : v.cells = cs.toArray := by cases h <;> rfl
theorem wp_store1 (M : Mem S w0 l w) (t : TypeId) (x y : Operand) (ho : o.op = .store t x y) (g i : Nat) (hx : a.eval x = .pointer (some ⟨g, i, none⟩)) {u : TypeId} {cs : List Value} {f : Res → List Res}
    (p : Pick l (bx g u cs) f) (hn : OneT P t) (v : Value) (hco : CellsOf (a.eval y) [v]) (h1 : v.oneCell' = true) (hi : i < cs.length)
    (h : ∀ w', Mem S w0 (f (bx g u (cs.set i v))) w' → K (a.put o.dst undef) w') : o.wp P a w K Q := by
  have hsz : (sizeOf t).run P w = .ok [v].length w := (hn w).2
  unfold Oper.wp execOp
  simp only [ho, hx, Instr.storeAt, Instr.sureAddr, Sem.run_bind, Sem.run_pure, Result.andThen_ok, run_store_setCells (M.box p) (i := i) (ws := [v]) (by simp; omega) hco.eq hsz (by simp [h1])]
  exact h _ (M.set p i v)
theorem wp_storeN (M : Mem S w0 l w) (t : TypeId) (x y : Operand) (ho : o.op = .store t x y) (g : Nat) (hx : a.eval x = .pointer (some ⟨g, 0, none⟩)) {u : TypeId} {cs : List Value} {f : Res → List Res}
    (p : Pick l (bx g u cs) f) (hn : RowT P t cs.length) (ws : List Value) (hy : a.eval y = .agg ws.toArray) (hl : ws.length = cs.length) (h1 : ws.all (·.oneCell') = true)
    (h : ∀ w', Mem S w0 (f (bx g u ws)) w' → K (a.put o.dst undef) w') : o.wp P a w K Q := by
  have hsz : (sizeOf t).run P w = .ok ws.length w := by rw [hl]; exact (hn w).2
  unfold Oper.wp execOp
  simp only [ho, hx, hy, Instr.storeAt, Instr.sureAddr, Sem.run_bind, Sem.run_pure, Result.andThen_ok, run_store_setCells (M.box p) (i := 0) (v := .agg ws.toArray) (ws := ws) (by simp; omega) rfl hsz h1]
  obtain ⟨h2, h3⟩ := box_setCells (g := g) (u := u) ws [] cs w (by have := M.box p; rw [List.nil_append, List.take_append_drop]; exact this) (by omega)
  refine h _ (M.put p (Fr.mono h3 (fun _ _ h e => h e)) _ ?_ (fun _ h => .inl h))
  have e : cs.drop ws.length = [] := by rw [hl]; simp
  rw [e] at h2
  show Box _ g u ws.toArray
  simpa using h2
theorem wp_box (M : Mem S w0 l w) (t : TypeId) (x : Operand) (ho : o.op = .box t x) (cs : List Value) (hco : CellsOf (a.eval x) cs)
    (h : ∀ g w', Mem S w0 (bx g t cs :: l) w' → K (a.put o.dst (.pointer (some ⟨g, 0, none⟩))) w') : o.wp P a w K Q := by
  have M' := M.al t cs
  have hc := hco.eq
  unfold Oper.wp execOp
  simp only [ho, Instr.box, newVar, newRow, hc]
  go_simp
  exact h _ _ M'
theorem wp_alloc (M : Mem S w0 l w) (t : TypeId) (ho : o.op = .alloc t) (v : Value) (hz : (zeroValue t).run P w = .ok v w) (cs : List Value) (hco : CellsOf v cs)
    (h : ∀ g w', Mem S w0 (bx g t cs :: l) w' → K (a.put o.dst (.pointer (some ⟨g, 0, none⟩))) w') : o.wp P a w K Q := by
  have M' := M.al t cs
  have hc := hco.eq
  unfold Oper.wp execOp
  simp only [ho, Instr.alloc, newVar, newRow, Sem.run_bind, hz, Result.andThen_ok, hc]
  go_simp
  exact h _ _ M'
/-- a slice of one element, made for an append -/
theorem wp_single (M : Mem S w0 l w) {t e : TypeId} {sz bytes : Nat} (E : ElemOf P t e sz bytes) (x : Operand) (ho : o.op = .buildSlice t 1 #[(0, x)]) (cs : List Value) (hco : CellsOf (a.eval x) cs) (hl : cs.length = sz) (hsm : sz ≤ 16777216)
    (h : ∀ g w', Mem S w0 (bx g e cs :: l) w' → K (a.put o.dst (.slice (some ⟨g, 0, none⟩) 1 1)) w') : o.wp P a w K Q := by
  have M' := M.al e cs
  have hc := hco.eq
  obtain ⟨i, z, hi, hz, hsz, hby, hzs⟩ := E.info
  have hp := E.pos
  have hze : (zeroValue e).run P w = .ok z w := by simp [zeroValue, typeInfo, hi, hz, Sem.run_bind]
  have hsi : (sizeOf e).run P w = .ok sz w := by simp [sizeOf, typeInfo, hi, hsz, Sem.run_bind]
  have hfill : ∀ C : Array Value, C.size = sz → Instr.fill (fun i => some (i * sz, sz)) C [(0, a.eval x)] = some cs.toArray := fun C hC => by
    unfold Instr.fill
    simp only [Nat.zero_mul, hc, List.size_toArray, hl, hC, Nat.zero_add, ne_eq, not_true, decide_false, gt_iff_lt, Nat.lt_irrefl, Bool.or_self, Bool.false_eq_true, if_false, Instr.fill]
    refine congrArg some ?_
    have key : ∀ (k : Nat), k ≤ sz → ∀ (D : Array Value), D.size = sz → (∀ j, j < sz - k → D[j]? = cs[j]?) → ((cs.toArray.zipIdx.toList.drop (sz - k)).foldl (fun (D : Array Value) (p : Value × Nat) => D.setIfInBounds p.2 p.1) D) = cs.toArray := by
      intro k
      induction k with
      | zero =>
        intro _ D hD hj
        rw [List.drop_of_length_le (by simp; omega)]
        refine Array.ext_getElem? fun j => ?_
        by_cases hjs : j < sz
        · rw [List.foldl_nil, hj j (by omega)]; simp
        · rw [List.foldl_nil, Array.getElem?_eq_none (by omega), Array.getElem?_eq_none (by simp; omega)]
      | succ k ih =>
        intro hk D hD hj
        have hlt : sz - (k + 1) < cs.toArray.zipIdx.toList.length := by simp; omega
        rw [List.drop_eq_getElem_cons hlt, List.foldl_cons, show sz - (k + 1) + 1 = sz - k by omega]
        refine ih (by omega) _ (by simp [hD]) fun j hj' => ?_
        simp only [Array.getElem_toList, Array.getElem_zipIdx, Nat.zero_add, List.getElem_toArray]
        by_cases he : j = sz - (k + 1)
        · subst he
          rw [Array.getElem?_setIfInBounds_self_of_lt (by omega), List.getElem?_eq_getElem (by omega)]
        · rw [Array.getElem?_setIfInBounds_ne (fun e => he e.symm)]
          exact hj j (by omega)
    have := key sz (Nat.le_refl _) C hC (fun j hj => by omega)
    rw [Nat.sub_self, List.drop_zero] at this
    rw [← Array.foldl_toList]
    simpa using this
  unfold Oper.wp execOp
  have hu := run_underlying E.under w
  simp only [ho, Instr.buildSlice, Sem.run_bind, hu, hsi, hze, Result.andThen_ok, Nat.one_mul]
  rw [if_neg (show ¬ sz > 2 ^ 24 by omega), if_neg (show ¬ sz = 0 by omega)]
  simp only [Sem.run_bind, Sem.run_pure, hze, Result.andThen_ok, List.map_toArray, List.map_cons, List.map_nil]
  rw [hfill _ (by simp)]
  go_simp
  exact h _ _ M'

/-! ### an operation written out: a refine that does not fit fails by looking -/
variable {dst : Option Tmp} {t ty : TypeId} {x y : Operand} {pos : String} {after : Array Edge} {gd : Option (Nat × Bool)}
theorem on_load (h : (Oper.mk dst (.load t x) ty pos after gd).wp P a w K Q) : (Oper.mk dst (.load t x) ty pos after gd).wp P a w K Q := h
theorem on_store (h : (Oper.mk dst (.store t x y) ty pos after gd).wp P a w K Q) : (Oper.mk dst (.store t x y) ty pos after gd).wp P a w K Q := h
theorem on_box (h : (Oper.mk dst (.box t x) ty pos after gd).wp P a w K Q) : (Oper.mk dst (.box t x) ty pos after gd).wp P a w K Q := h
theorem on_alloc (h : (Oper.mk dst (.alloc t) ty pos after gd).wp P a w K Q) : (Oper.mk dst (.alloc t) ty pos after gd).wp P a w K Q := h
theorem on_single {n : Nat} {ps : Array (Nat × Operand)} (h : (Oper.mk dst (.buildSlice t n ps) ty pos after gd).wp P a w K Q) : (Oper.mk dst (.buildSlice t n ps) ty pos after gd).wp P a w K Q := h
theorem on_append {xs : Array Operand} {ts : Array TypeId} (h : (Oper.mk dst (.call ⟨.builtin .append, xs, ts⟩) ty pos after gd).wp P a w K Q) : (Oper.mk dst (.call ⟨.builtin .append, xs, ts⟩) ty pos after gd).wp P a w K Q := h
end
theorem pk {α : Prop} (h : α := by (repeat (first | exact Pick.head | apply Pick.tail)); done) : α := h
end Go.Proofs.YtkblkdnihppmnaaGreatDoor
/- Base, more: copying a whole slice into one that was just made. No program in sight. -/
namespace Go.Proofs.YtkblkdnihppmnaaGreatDoor
set_option linter.unusedSimpArgs false
set_option linter.unusedVariables false
open Go.RowKit

theorem Own.of_block {α : Type} {w : World} {base g : Nat} {e : TypeId} {f : α → List Value} {sz : Nat} {l : List α} (hg : w.heap[g]? = some (.cells (l.flatMap f).toArray e (0, 0))) (hb : base ≤ g) (hf : ∀ x, (f x).length = sz) (hl : l.length ≤ maxLen) :
    Own w base e f sz (some ⟨g, 0, none⟩) l.length l := by
  have hlen := length_flatMap' hf l
  refine ⟨hlen, .inr ⟨g, l.length, _, rfl, hb, hg, Nat.le_refl _, hl, by simp [hlen], ?_⟩⟩
  rw [← hlen]
  exact List.take_length

end Go.Proofs.YtkblkdnihppmnaaGreatDoor
/- Appends and copies of lists within and between rows. No program in sight. -/
namespace Go.Proofs.YtkblkdnihppmnaaGreatDoor
set_option linter.unusedSimpArgs false
set_option linter.unusedVariables false
open Go.RowKit

theorem Own.lower {α : Type} {w : World} {base base' : Nat} {e : TypeId} {f : α → List Value} {sz : Nat} {A : Option Addr} {c : Nat} {l : List α} (h : Own w base e f sz A c l) (hb : base' ≤ base) : Own w base' e f sz A c l :=
  ⟨h.1, h.2.imp id fun ⟨g, cap, cur, h1, h2, h3⟩ => ⟨g, cap, cur, h1, Nat.le_trans hb h2, h3⟩⟩

theorem add_plain (b off j : Nat) : ((⟨b, off, none⟩ : Addr).add j) = ⟨b, off + j, none⟩ := by unfold Addr.add; split <;> simp_all
end Go.Proofs.YtkblkdnihppmnaaGreatDoor
/- Appends to rows of a call's own, and returns, over memory as a list of what lies in it. No program in sight. -/
namespace Go.Proofs.YtkblkdnihppmnaaGreatDoor
set_option linter.unusedSimpArgs false
set_option linter.unusedVariables false
open Go.RowKit Res

section
variable {P : Program} {S : Nat → Prop} {w0 w : World} {l : List Res} {o : Oper} {a : Act} {K : Act → World → Prop} {Q : Exit → Act → World → Prop}

theorem ownBlock_slice (A : Option Addr) (n c : Nat) : Value.ownBlock (.slice A n c) = ownBlk A := by cases A <;> rfl
/-- `v = append(v, x...)`: whatever row x is -/
theorem wp_appends (M : Mem S w0 l w) {t e : TypeId} {sz bytes : Nat} (E : ElemOf P t e sz bytes) (s x : Operand) (ho : o.op = .call { callee := .builtin .append, args := #[s, x], argTypes := #[t, t] })
    {α : Type} {f : α → List Value} {A : Option Addr} {c n : Nat} {xs : List α} {F : Res → List Res} (hs : a.eval s = .slice A n c) (p : Pick l (ow e f sz A c xs) F) (hn : n = xs.length) (ys : List α)
    {B : Option Addr} {m cx lo hi : Nat} (hx : a.eval x = .slice B m cx) (hm : m = ys.length) (hrow : Row w lo hi sz B m (ys.flatMap f)) (hnil : B = none → cx = 0) (hf : ∀ x, (f x).length = sz) (h1 : ∀ x, ∀ u ∈ f x, u.oneCell' = true)
    (hsmall : (xs.length + ys.length) * bytes ≤ 140737488355328) (hlen : xs.length + ys.length ≤ 140737488355328)
    (h : ∀ A' c' w', Mem S w0 (F (ow e f sz A' c' (xs ++ ys))) w' → K (a.put o.dst (.slice A' (xs.length + ys.length) c')) w') : o.wp P a w K Q := by
  subst hn hm
  obtain ⟨i, z, hi, hz, hsz, hby, hzs⟩ := E.info
  have hown := M.own p
  cases B with
  | none =>
    have h0 : ys = [] := by
      cases ys with
      | nil => rfl
      | cons y ys =>
        obtain ⟨b, off, e, _⟩ := hrow.mem (by simp)
        cases e
    subst h0
    rw [hnil rfl] at hx
    have hrun := run_append_owned_none (P := P) (w := w) 0 t o.type e i sz E.under hi (.slice A xs.length c) xs.length (xs.flatMap f) hown
    unfold Oper.wp
    simp [execOp, ho, resolve, invoke, builtin, hs, hx, hrun, Result.andThen]
    refine h A c w ?_
    rw [List.append_nil]
    exact M.put p (Fr.refl w) _ hown (fun _ h => .inl h)
  | some ad =>
    obtain ⟨v', w', hr, h2, h3, h4, h5⟩ := run_append_own_at (P := P) (w := w) (ty := o.type) 0 t e i z sz bytes E.under hi hz hsz hby hzs E.pos (.slice A xs.length c) xs.length (xs.flatMap f) hown ad ys.length cx (ys.flatMap f)
      (length_flatMap' hf ys) (fun j u hj => by
        have hy : 0 < ys.length := by
          cases ys with
          | nil => simp at hj
          | cons y ys => simp
        obtain ⟨b, off, e, _, _, hc⟩ := hrow.mem hy
        injection e with e
        subst e
        rw [add_plain]
        exact hc j u hj) (fun u hu => by obtain ⟨x, _, hx⟩ := List.mem_flatMap.1 hu; exact h1 x u hx) (by unfold maxLen; omega) hsmall (Nat.zero_le _)
    unfold Oper.wp execOp
    simp only [ho, resolve, invoke, builtin, Sem.run_bind, Sem.run_pure, Result.andThen_ok, List.map_toArray, List.map_cons, List.map_nil, hs, hx, hr]
    obtain ⟨A', c', rfl⟩ := own_form h2
    rw [ownBlock_slice] at h3 h5
    rw [ownBlock_slice] at h5
    refine h A' c' w' (M.put p (Fr.of_grown h3 fun g e _ hg => hg e) _ ?_ fun b hb => ?_)
    · show Own w' 0 e f sz A' c' (xs ++ ys)
      unfold Own
      rw [List.flatMap_append, List.length_append]
      exact h2
    · rcases h5 with h5 | h5
      · exact .inl (by show ownBlk A = some b; rw [← h5]; exact hb)
      · refine .inr ?_
        have hb' : ownBlk A' = some b := hb
        rw [h5] at hb'
        injection hb' with hb'
        omega
end

theorem _root_.Go.Proofs.YtkblkdnihppmnaaGreatDoor.Own.raise {α : Type} {w : World} {base base' : Nat} {e : TypeId} {f : α → List Value} {sz : Nat} {A : Option Addr} {c : Nat} {l : List α} (h : Own w base e f sz A c l) (hb : ∀ g, ownBlk A = some g → base' ≤ g) : Own w base' e f sz A c l := by
  obtain ⟨h1, h2⟩ := h
  refine ⟨h1, ?_⟩
  rcases h2 with h2 | ⟨g, cap, cur, hv, hg, r⟩
  · exact .inl h2
  · refine .inr ⟨g, cap, cur, hv, hb g ?_, r⟩
    injection hv with hv
    rw [hv]; rfl
/-- what a call hands out lies in new blocks -/
theorem Mem.own_new {α : Type} {w w' : World} {l : List Res} {e : TypeId} {f : α → List Value} {sz : Nat} {A : Option Addr} {c : Nat} {xs : List α} {F : Res → List Res} (M : Mem (· < w.heap.size) w l w') (p : Pick l (ow e f sz A c xs) F) : Own w' w.heap.size e f sz A c xs :=
  (M.own p).raise fun g hg => Nat.le_of_not_lt (M.out _ p.mem g hg)
/-! ## returns -/
def Out (P : Program) (tmps : Array Value) (w : World) : ResultVar → Value → Prop
  | .tmp t, v => tmps.getD t undef = v
  | .cell a t, v => ∃ p, tmps.getD a undef = .pointer (some p) ∧ (loadVar t p).run P w = .ok v w
section
variable {P : Program} {S : Nat → Prop} {w0 w : World} {l : List Res} {fn : Func} {R : Ending → World → Prop} {a : Act}
theorem Out.tmp {t : Nat} {v : Value} {tmps : Array Value} (h : tmps.getD t undef = v) : Out P tmps w (.tmp t) v := h
theorem Out.one (M : Mem S w0 l w) {tmps : Array Value} {t : Nat} {ty u : TypeId} {g : Nat} {cs : List Value} {f : Res → List Res} (h : tmps.getD t undef = .pointer (some ⟨g, 0, none⟩)) (p : Pick l (bx g u cs) f) (hn : OneT P ty) {v : Value} (hv : cs[0]? = some v) :
    Out P tmps w (.cell t ty) v := by
  have hc : w.cell? ⟨g, 0, none⟩ = some v := by rw [(M.box p).cell]; simpa using hv
  exact ⟨_, h, run_loadVar_one hn hc⟩
theorem Out.row (M : Mem S w0 l w) {tmps : Array Value} {t : Nat} {ty u : TypeId} {g : Nat} {cs : List Value} {f : Res → List Res} (h : tmps.getD t undef = .pointer (some ⟨g, 0, none⟩)) (p : Pick l (bx g u cs) f) (hn : RowT P ty cs.length) :
    Out P tmps w (.cell t ty) (.agg cs.toArray) := ⟨_, h, run_loadVar_box hn (M.box p)⟩
theorem ret_m1 {r0 : ResultVar} {v0 : Value} (hres : fn.results = #[r0]) (h0 : Out P a.tmps w r0 v0) (hd : a.defers = []) (h : R (.returned v0) w) : bodyPost P fn R .ret a w := by
  refine bodyPost_ret ?_ hd h
  cases r0 <;> simp [Out] at h0 <;> (try obtain ⟨p0, e0, h0⟩ := h0) <;> simp [results, hres, Sem.run_bind, asAddr, *]
theorem ret_m2 {r0 r1 : ResultVar} {v0 v1 : Value} (hres : fn.results = #[r0, r1]) (h0 : Out P a.tmps w r0 v0) (h1 : Out P a.tmps w r1 v1) (hd : a.defers = []) (h : R (.returned (.tuple #[v0, v1])) w) : bodyPost P fn R .ret a w := by
  refine bodyPost_ret ?_ hd h
  cases r0 <;> cases r1 <;> simp [Out] at h0 h1 <;> (try obtain ⟨p0, e0, h0⟩ := h0) <;> (try obtain ⟨p1, e1, h1⟩ := h1) <;> simp [results, hres, Sem.run_bind, asAddr, *]
theorem ret_m3 {r0 r1 r2 : ResultVar} {v0 v1 v2 : Value} (hres : fn.results = #[r0, r1, r2]) (h0 : Out P a.tmps w r0 v0) (h1 : Out P a.tmps w r1 v1) (h2 : Out P a.tmps w r2 v2) (hd : a.defers = []) (h : R (.returned (.tuple #[v0, v1, v2])) w) : bodyPost P fn R .ret a w := by
  refine bodyPost_ret ?_ hd h
  cases r0 <;> cases r1 <;> cases r2 <;> simp [Out] at h0 h1 h2 <;> (try obtain ⟨p0, e0, h0⟩ := h0) <;> (try obtain ⟨p1, e1, h1⟩ := h1) <;> (try obtain ⟨p2, e2, h2⟩ := h2) <;> simp [results, hres, Sem.run_bind, asAddr, *]
end
end Go.Proofs.YtkblkdnihppmnaaGreatDoor
/- A part of memory handed to a call and taken back. No program in sight. -/
namespace Go.Proofs.YtkblkdnihppmnaaGreatDoor
set_option linter.unusedSimpArgs false
set_option linter.unusedVariables false
open Go.RowKit Res

inductive Take : List Res → Res → List Res → Prop where
  | head {c : Res} {l : List Res} : Take (c :: l) c l
  | tail {b c : Res} {l r : List Res} : Take l c r → Take (b :: l) c (b :: r)
inductive Takes : List Res → List Res → List Res → Prop where
  | nil {l : List Res} : Takes l [] l
  | cons {l m rs rest : List Res} {r : Res} : Take l r m → Takes m rs rest → Takes l (r :: rs) rest
theorem Take.perm {l r : List Res} {c : Res} (h : Take l c r) : l.Perm (c :: r) := by
  induction h with
  | head => exact List.Perm.refl _
  | tail _ ih => exact (ih.cons _).trans (List.Perm.swap _ _ _)
theorem Takes.perm {l rs rest : List Res} (h : Takes l rs rest) : l.Perm (rs ++ rest) := by
  induction h with
  | nil => exact List.Perm.refl _
  | cons t _ ih => exact t.perm.trans (ih.cons _)
/-- the blocks of w that none of these holds -/
def OutOf (rs : List Res) (w : World) (b : Nat) : Prop := b < w.heap.size ∧ ∀ r ∈ rs, ¬ r.fp b
namespace Mem
variable {S : Nat → Prop} {w0 w w' : World} {l rs rest rs' : List Res}
theorem perm (M : Mem S w0 l w) (h : l.Perm rs) : Mem S w0 rs w :=
  ⟨M.fr, M.lo, fun r hr => M.all r (h.mem_iff.2 hr), fun r hr => M.out r (h.mem_iff.2 hr), M.apart.perm h (fun hab b hb ha => hab b ha hb)⟩
theorem app (M : Mem S w0 (rs ++ rest) w) : Mem S w0 rs w :=
  ⟨M.fr, M.lo, fun r hr => M.all r (List.mem_append_left _ hr), fun r hr => M.out r (List.mem_append_left _ hr), (List.pairwise_append.1 M.apart).1⟩
theorem sub (M : Mem S w0 l w) (t : Takes l rs rest) : Mem S w0 rs w := (M.perm t.perm).app
theorem only (M : Mem S w0 l w) (t : Takes l rs rest) : Mem (OutOf rs w) w rs w :=
  ⟨Fr.refl w, fun _ h => h.1, (M.sub t).all, fun r hr b hb h => h.2 r hr hb, (M.sub t).apart⟩
theorem into (M : Mem S w0 l w) (t : Takes l rs rest) (M' : Mem (OutOf rs w) w rs' w') : Mem S w0 (rs' ++ rest) w' := by
  have N := M.perm t.perm
  have hp := List.pairwise_append.1 N.apart
  have hrest : ∀ s ∈ rest, ∀ b, s.fp b → OutOf rs w b := fun s hs b hb => ⟨Res.low (N.all s (List.mem_append_right _ hs)) hb, fun r hr hrb => hp.2.2 r hr s hs b hrb hb⟩
  have hS : ∀ x, x < w0.heap.size → S x → OutOf rs w x := fun x hx hSx => ⟨Nat.lt_of_lt_of_le hx M.fr.size, fun r hr hrx => N.out r (List.mem_append_left _ hr) x hrx hSx⟩
  refine ⟨M.fr.step M'.fr hS, M.lo, fun r hr => ?_, fun r hr b hb hSb => ?_, List.pairwise_append.2 ⟨M'.apart, hp.2.1, fun r hr s hs b hrb hsb => M'.out r hr b hrb (hrest s hs b hsb)⟩⟩
  · rcases List.mem_append.1 hr with hr | hr
    · exact M'.all r hr
    · exact Res.keep (N.all r (List.mem_append_right _ hr)) fun b hb => M'.fr.block b (hrest r hr b hb).1 (hrest r hr b hb)
  · rcases List.mem_append.1 hr with hr | hr
    · exact M'.out r hr b hb (hS b (M.lo b hSb) hSb)
    · exact N.out r (List.mem_append_right _ hr) b hb hSb
/-- a call that only makes memory, and hands out a row of it -/
theorem new_own (M : Mem S w0 l w) {α : Type} {base : Nat} {e : TypeId} {f : α → List Value} {sz : Nat} {A : Option Addr} {c : Nat} {xs : List α} (h : Own w' base e f sz A c xs) (hb : w.heap.size ≤ base) (hX : Ext w w') : Mem S w0 (ow e f sz A c xs :: l) w' :=
  M.new hX _ (h.lower (Nat.zero_le _)) fun b hb' => Nat.le_trans hb (h.blk b hb').1
end Mem
theorem ret_m0 {P : Program} {w : World} {fn : Func} {R : Ending → World → Prop} {a : Act} (hres : fn.results = #[]) (hd : a.defers = []) (h : R (.returned (.tuple #[])) w) : bodyPost P fn R .ret a w := by
  refine bodyPost_ret ?_ hd h
  simp [results, hres]
theorem ret_n0 {P : Program} {w : World} {fn : Func} {R : Ending → World → Prop} {a : Act} (hres : fn.results = #[]) (hd : a.defers = []) (h : R (.returned (.tuple #[])) w) : bodyPost P fn R .normal a w := by
  refine bodyPost_end ?_ hd h
  simp [results, hres]
theorem tk {α : Prop} (h : α := by (repeat (first | exact Takes.nil | exact Take.head | apply Take.tail | apply Takes.cons)); done) : α := h
end Go.Proofs.YtkblkdnihppmnaaGreatDoor
/- Regions whose order is left open, over memory as a list of what lies in it: first what only reads, in any order, then the rest in one row. No program in sight. -/
namespace Go.Proofs.YtkblkdnihppmnaaGreatDoor
set_option linter.unusedSimpArgs false
set_option linter.unusedVariables false
open Go.RowKit Res

/-- as fastK, in a region that only reads -/
theorem fastS (P' : Program) {P : Program} {w : World} {ops : Array Oper} {rest : List Oper} {Qs : Act → Prop} {a : Act} {d : Tmp} {dst : Option Tmp} {v : Value} (hd : dst = some d)
    (h : (Oper.mk (some d) (.move (.const v)) 0 "" #[] none).wp P' a w (fun a' _ => wpStill P ops w Qs rest a') (fun _ _ _ => True)) : wpStill P ops w Qs rest (a.put dst v) := by subst hd; exact h
theorem fastSN {P : Program} {w : World} {ops : Array Oper} {rest : List Oper} {Qs : Act → Prop} {a : Act} {dst : Option Tmp} {v : Value} (hd : dst = none) (h : wpStill P ops w Qs rest a) : wpStill P ops w Qs rest (a.put dst v) := by subst hd; exact h

/-- operations that yield a value and nothing else -/
def valueOp : Op → Bool
  | .move _ | .assign _ | .binOp .. | .unOp .. | .convert .. | .fieldAddr .. | .field .. | .indexAddr .. | .index .. | .extract .. | .slice .. | .load .. => true
  | _ => false
theorem value_of {s : Sem Value} {P : Program} {w w' : World} {n : Next} (h : ((do pure (.value (← s)) : Sem Next)).run P w = .ok n w') : ∃ v, n = .value v := by
  rw [Sem.run_bind] at h
  cases hs : s.run P w with
  | ok v w1 => rw [hs] at h; simp only [Result.andThen_ok, Sem.run_pure] at h; injection h with h1 h2; exact ⟨v, h1.symm⟩
  | halt x w1 => rw [hs] at h; simp [Result.andThen] at h
theorem valueOp_ok {o : Oper} (hq : valueOp o.op = true) {ρ : Operand → Value} {P : Program} {w w' : World} {n : Next} (h : (execOp ρ o).run P w = .ok n w') : ∃ v, n = .value v := by
  unfold execOp at h
  obtain ⟨dst, op, ty, pos, after, gd⟩ := o
  cases op <;> first
    | (simp [valueOp] at hq; done)
    | (exact value_of h)
    | (simp only [Sem.run_pure] at h; injection h with h1 h2; exact ⟨_, h1.symm⟩)
/-- an operation that only yields a value, in a region that only reads: walked as any other operation -/
theorem st_quiet {P : Program} {w : World} {ops : Array Oper} {rest : List Oper} {Qs : Act → Prop} {a : Act} {o : Oper} (hq : valueOp o.op = true) (hg : o.guard = none)
    (h : ∀ K : Act → World → Prop, (∀ a', wpStill P ops w Qs rest a' → K a' w) → o.wp P a w K (fun _ _ _ => False)) : wpStill P ops w Qs (o :: rest) a := by
  have h1 := h (fun a' w' => w' = w ∧ wpStill P ops w Qs rest a') (fun a' h => ⟨rfl, h⟩)
  unfold wpStill Oper.still
  rw [if_pos (by unfold Region.wanted; rw [hg])]
  unfold Oper.wp at h1
  generalize hr : (execOp a.eval o).run P w = r at h1 ⊢
  cases r with
  | ok n w' =>
    obtain ⟨v, rfl⟩ := valueOp_ok hq hr
    exact h1
  | halt x w' => cases x <;> exact h1.elim

section
variable {P : Program} {S : Nat → Prop} {w0 w : World} {l : List Res} {Q : Exit → Act → World → Prop} {a : Act}
theorem wp_region_mem0 (M : Mem S w0 l w) {id : Nat} {L : List Oper} (hm : P.follows .mixedOrders = true) (hB : Region.lexB .any L.toArray = true)
    (h : ∀ w', Mem S w0 l w' → wpStill P L.toArray w' (fun a' => Q .normal a' w') L a) : (Code.region id L.toArray true).wp P Q a w :=
  wp_region_still_lit hm hB (h w.drew M.drew)
/-- at a region, by its number -/
theorem on_region (id : Nat) {ops : Array Oper} (h : (Code.region id ops true).wp P Q a w) : (Code.region id ops true).wp P Q a w := h
variable {ops : Array Oper} {rest : List Oper} {Qs : Act → Prop} {dst : Option Tmp} {t ty : TypeId} {x : Operand} {pos : String} {after : Array Edge}
theorem st_of (o : Oper) (hg : o.guard = none) (v : Value) (hr : (execOp a.eval o).run P w = .ok (.value v) w) (h : wpStill P ops w Qs rest (a.put o.dst v)) : wpStill P ops w Qs (o :: rest) a := by
  unfold wpStill Oper.still
  rw [if_pos (by unfold Region.wanted; rw [hg]), hr, Oper.stillUpon_value]
  exact h
theorem st_load (h : wpStill P ops w Qs (Oper.mk dst (.load t x) ty pos after none :: rest) a) : wpStill P ops w Qs (Oper.mk dst (.load t x) ty pos after none :: rest) a := h
theorem st_load1 (M : Mem S w0 l w) (g i : Nat) (hx : a.eval x = .pointer (some ⟨g, i, none⟩)) {u : TypeId} {cs : List Value} {f : Res → List Res}
    (p : Pick l (bx g u cs) f) (hn : OneT P t) (v : Value) (hv : cs[i]? = some v) (h : wpStill P ops w Qs rest (a.put dst v)) : wpStill P ops w Qs (Oper.mk dst (.load t x) ty pos after none :: rest) a :=
  st_of _ rfl v (ex_load1 t x rfl ⟨g, i, none⟩ hx hn v (by rw [(M.box p).cell]; simpa using hv)) h
theorem st_loadN (M : Mem S w0 l w) (g : Nat) (hx : a.eval x = .pointer (some ⟨g, 0, none⟩)) {u : TypeId} {cs : List Value} {f : Res → List Res}
    (p : Pick l (bx g u cs) f) (hn : RowT P t cs.length) (h : wpStill P ops w Qs rest (a.put dst (.agg cs.toArray))) : wpStill P ops w Qs (Oper.mk dst (.load t x) ty pos after none :: rest) a :=
  st_of _ rfl (.agg cs.toArray) (by
    unfold execOp
    simp only [hx, Instr.loadAt, Instr.sureAddr, Sem.run_bind, Sem.run_pure, Result.andThen_ok, run_loadVar_box hn (M.box p)]) h
end
end Go.Proofs.YtkblkdnihppmnaaGreatDoor
/- Reads of what was there ahead of the call. No program in sight. -/
namespace Go.Proofs.YtkblkdnihppmnaaGreatDoor
set_option linter.unusedSimpArgs false
set_option linter.unusedVariables false
open Go.RowKit Res

section
variable {P : Program} {S : Nat → Prop} {w0 w : World} {l : List Res} {o : Oper} {a : Act} {K : Act → World → Prop} {Q : Exit → Act → World → Prop}
theorem Mem.far (M : Mem (· < w0.heap.size) w0 l w) {p : Addr} {v : Value} (hc : w0.cell? p = some v) : w.cell? p = some v :=
  (World.cell?_of_block (w := w0) (a := p) (M.ext_of.block p.block (block_lt_of_cell hc))).trans hc
theorem wp_load1C (t : TypeId) (x : Operand) (ho : o.op = .load t x) (g i : Nat) (hx : a.eval x = .pointer (some ⟨g, i, none⟩)) (v : Value) (hv : w.cell? ⟨g, i, none⟩ = some v) (hn : OneT P t) (h : K (a.put o.dst v) w) : o.wp P a w K Q := by
  unfold Oper.wp execOp
  simp only [ho, hx, Instr.loadAt, Instr.sureAddr, Sem.run_bind, Sem.run_pure, Result.andThen_ok, run_loadVar_one hn hv]
  exact h
theorem wp_loadNC (t : TypeId) (x : Operand) (ho : o.op = .load t x) (g i : Nat) (hx : a.eval x = .pointer (some ⟨g, i, none⟩)) (cs : List Value) (hc : ∀ j u, cs[j]? = some u → w.cell? ⟨g, i + j, none⟩ = some u) (hn : RowT P t cs.length) (h : K (a.put o.dst (.agg cs.toArray)) w) : o.wp P a w K Q := by
  unfold Oper.wp execOp
  simp only [ho, hx, Instr.loadAt, Instr.sureAddr, Sem.run_bind, Sem.run_pure, Result.andThen_ok, run_loadVar_cells hn hc]
  exact h
variable {ops : Array Oper} {rest : List Oper} {Qs : Act → Prop} {dst : Option Tmp} {t ty : TypeId} {x : Operand} {pos : String} {after : Array Edge}
theorem st_load1C (g i : Nat) (hx : a.eval x = .pointer (some ⟨g, i, none⟩)) (v : Value) (hv : w.cell? ⟨g, i, none⟩ = some v) (hn : OneT P t) (h : wpStill P ops w Qs rest (a.put dst v)) : wpStill P ops w Qs (Oper.mk dst (.load t x) ty pos after none :: rest) a :=
  st_of _ rfl v (ex_load1 t x rfl ⟨g, i, none⟩ hx hn v hv) h
end
end Go.Proofs.YtkblkdnihppmnaaGreatDoor
/- Regions whose order is left open, over memory as a list of what lies in it: one walk of one schedule; what is read there is not written there. No program in sight. -/
namespace Go.Proofs.YtkblkdnihppmnaaGreatDoor
set_option linter.unusedSimpArgs false
set_option linter.unusedVariables false
open Go.RowKit Res

/-- what lies at the addresses that these slots hold stays -/
def keepR (a : Act) (ss : List Nat) (w w' : World) : Prop := w.heap.size ≤ w'.heap.size ∧ ∀ s ∈ ss, ∀ g i, a.eval (.tmp s) = .pointer (some ⟨g, i, none⟩) → ∀ o v, w.cell? ⟨g, o, none⟩ = some v → w'.cell? ⟨g, o, none⟩ = some v
def OffB (a : Act) (ss : List Nat) (g : Nat) : Prop := ∀ s ∈ ss, ∀ g' i, a.eval (.tmp s) = .pointer (some ⟨g', i, none⟩) → g' ≠ g
theorem OffB.nil {a : Act} {g : Nat} : OffB a [] g := fun _ h => by cases h
theorem OffB.cons {a : Act} {s : Nat} {ss : List Nat} {g g' i : Nat} (hb : a.eval (.tmp s) = .pointer (some ⟨g', i, none⟩)) (hne : g' ≠ g) (h : OffB a ss g) : OffB a (s :: ss) g := fun t ht k j hk => by
  rcases List.mem_cons.1 ht with rfl | ht
  · rw [hb] at hk
    injection hk with hk
    injection hk with hk
    injection hk with hk
    rw [← hk]; exact hne
  · exact h t ht k j hk
namespace keepR
variable {a : Act} {ss : List Nat} {w w' : World}
theorem refl (w : World) : keepR a ss w w := ⟨Nat.le_refl _, fun _ _ _ _ _ _ _ h => h⟩
theorem trans (x y z : World) (h : keepR a ss x y) (k : keepR a ss y z) : keepR a ss x z := ⟨Nat.le_trans h.1 k.1, fun s hs g i hb o v hv => k.2 s hs g i hb o v (h.2 s hs g i hb o v hv)⟩
theorem ext (h : Ext w w') : keepR a ss w w' := ⟨h.size, fun s _ g i _ o v hv => (h.cell (p := ⟨g, o, none⟩) (block_lt_of_cell hv)).trans hv⟩
theorem fr {g : Nat} (h : Fr (· ≠ g) w w') (ho : OffB a ss g) : keepR a ss w w' :=
  ⟨h.size, fun s hs g' i hb o v hv => (World.cell?_of_block (w := w) (a := ⟨g', o, none⟩) (h.block g' (block_lt_of_cell hv) (ho s hs g' i hb))).trans hv⟩
end keepR
section
variable {P : Program} {S : Nat → Prop} {w0 w : World} {l : List Res} {Q : Exit → Act → World → Prop} {a a0 : Act} {o : Oper} {K : Act → World → Prop}
theorem Mem.ne2 (M : Mem S w0 l w) {g g' : Nat} {u u' : TypeId} {cs cs' : List Value} {rest : List Res} (t : Takes l [bx g u cs, bx g' u' cs'] rest) : g ≠ g' := fun e =>
  (List.pairwise_cons.1 (M.sub t).apart).1 (bx g' u' cs') (by simp) g rfl e
theorem wp_region_keep (M : Mem S w0 l w) (ss : List Nat) {id : Nat} {L : List Oper} (m : Nat) (sch : List (Nat × Bool)) (hm : P.follows .mixedOrders = true) (hB : regionOk L.toArray m sch = true)
    (hQ : ∀ c a d v w, Q (.panic c) (Act.put a d v) w → Q (.panic c) a w) (h : ∀ w', Mem S w0 l w' → wpSch P L.toArray Q (keepR a ss) m sch a w') : (Code.region id L.toArray true).wp P Q a w :=
  wp_region_sch (keepR a ss) m sch hm hB keepR.refl keepR.trans hQ (h w.drew M.drew)
variable {L : List Oper} {i m : Nat} {sch : List (Nat × Bool)} {ss : List Nat} {dst : Option Tmp} {t ty : TypeId} {x : Operand} {pos : String} {after : Array Edge}
theorem sch_load1 (M : Mem S w0 l w) (s : Nat) (ho : L[i]? = some (Oper.mk dst (.load t x) ty pos after none)) (hs : s ∈ ss) (g j : Nat) (hb : a0.eval (.tmp s) = .pointer (some ⟨g, j, none⟩)) (k : Nat) (hx : a.eval x = .pointer (some ⟨g, k, none⟩)) {u : TypeId} {cs : List Value} {f : Res → List Res}
    (p : Pick l (bx g u cs) f) (hn : OneT P t) (v : Value) (hv : cs[k]? = some v) (h : wpSch P L.toArray Q (keepR a0 ss) m sch (a.put dst v) w) : wpSch P L.toArray Q (keepR a0 ss) m ((i, true) :: sch) a w :=
  wpSch_q v ho rfl (fun w' hR => ex_load1 t x rfl ⟨g, k, none⟩ hx hn v (hR.2 s hs g j hb k v (by rw [(M.box p).cell]; simpa using hv))) h
theorem sch_loadN (M : Mem S w0 l w) (s : Nat) (ho : L[i]? = some (Oper.mk dst (.load t x) ty pos after none)) (hs : s ∈ ss) (g j : Nat) (hb : a0.eval (.tmp s) = .pointer (some ⟨g, j, none⟩)) (hx : a.eval x = .pointer (some ⟨g, 0, none⟩)) {u : TypeId} {cs : List Value} {f : Res → List Res}
    (p : Pick l (bx g u cs) f) (hn : RowT P t cs.length) (h : wpSch P L.toArray Q (keepR a0 ss) m sch (a.put dst (.agg cs.toArray)) w) : wpSch P L.toArray Q (keepR a0 ss) m ((i, true) :: sch) a w :=
  wpSch_q (.agg cs.toArray) ho rfl (fun w' hR => by
    unfold execOp
    simp only [hx, Instr.loadAt, Instr.sureAddr, Sem.run_bind, Sem.run_pure, Result.andThen_ok, run_loadVar_cells (w := w') hn (g := g) (i := 0) (fun j' u hu => by
      rw [Nat.zero_add]
      exact hR.2 s hs g j hb j' u (by rw [(M.box p).cell]; simpa using hu))]) h
theorem wp_store1F (M : Mem S w0 l w) (t : TypeId) (x y : Operand) (ho : o.op = .store t x y) (g i : Nat) (hx : a.eval x = .pointer (some ⟨g, i, none⟩)) {u : TypeId} {cs : List Value} {f : Res → List Res}
    (p : Pick l (bx g u cs) f) (hn : OneT P t) (v : Value) (hco : CellsOf (a.eval y) [v]) (h1 : v.oneCell' = true) (hi : i < cs.length)
    (h : ∀ w', Fr (· ≠ g) w w' → Mem S w0 (f (bx g u (cs.set i v))) w' → K (a.put o.dst undef) w') : o.wp P a w K Q := by
  have hsz : (sizeOf t).run P w = .ok [v].length w := (hn w).2
  unfold Oper.wp execOp
  simp only [ho, hx, Instr.storeAt, Instr.sureAddr, Sem.run_bind, Sem.run_pure, Result.andThen_ok, run_store_setCells (M.box p) (i := i) (ws := [v]) (by simp; omega) hco.eq hsz (by simp [h1])]
  exact h _ (Fr.set (p := ⟨g, i, none⟩) (Fr.refl w) v (fun _ h => h rfl)) (M.set p i v)
theorem wp_storeNF (M : Mem S w0 l w) (t : TypeId) (x y : Operand) (ho : o.op = .store t x y) (g : Nat) (hx : a.eval x = .pointer (some ⟨g, 0, none⟩)) {u : TypeId} {cs : List Value} {f : Res → List Res}
    (p : Pick l (bx g u cs) f) (hn : RowT P t cs.length) (ws : List Value) (hy : a.eval y = .agg ws.toArray) (hl : ws.length = cs.length) (h1 : ws.all (·.oneCell') = true)
    (h : ∀ w', Fr (· ≠ g) w w' → Mem S w0 (f (bx g u ws)) w' → K (a.put o.dst undef) w') : o.wp P a w K Q := by
  have hsz : (sizeOf t).run P w = .ok ws.length w := by rw [hl]; exact (hn w).2
  unfold Oper.wp execOp
  simp only [ho, hx, hy, Instr.storeAt, Instr.sureAddr, Sem.run_bind, Sem.run_pure, Result.andThen_ok, run_store_setCells (M.box p) (i := 0) (v := .agg ws.toArray) (ws := ws) (by simp; omega) rfl hsz h1]
  obtain ⟨h2, h3⟩ := box_setCells (g := g) (u := u) ws [] cs w (by have := M.box p; rw [List.nil_append, List.take_append_drop]; exact this) (by omega)
  refine h _ h3 (M.put p (Fr.mono h3 (fun _ _ h e => h e)) _ ?_ (fun _ h => .inl h))
  have e : cs.drop ws.length = [] := by rw [hl]; simp
  rw [e] at h2
  show Box _ g u ws.toArray
  simpa using h2
end
end Go.Proofs.YtkblkdnihppmnaaGreatDoor
/- A slice that is written out, and loops that are unrolled. No program in sight. -/
namespace Go.Proofs.YtkblkdnihppmnaaGreatDoor
set_option linter.unusedSimpArgs false
set_option linter.unusedVariables false
open Go.RowKit Res

/-- the parts of a slice that is written out, in order, from place k on, each of sz cells -/
inductive Parts (sz : Nat) : Nat → List (Nat × Value) → List Value → Prop where
  | nil {k : Nat} : Parts sz k [] []
  | cons {k : Nat} {v : Value} {cs : List Value} {ps : List (Nat × Value)} {C : List Value} (h : CellsOf v cs) (hl : cs.length = sz) (hr : Parts sz (k + 1) ps C) : Parts sz k ((k, v) :: ps) (cs ++ C)
theorem Parts.len {sz : Nat} : ∀ {k : Nat} {ps : List (Nat × Value)} {C : List Value}, Parts sz k ps C → C.length = ps.length * sz
  | _, _, _, .nil => by simp
  | _, _, _, .cons _ hl hr => by rw [List.length_append, hl, hr.len, List.length_cons, Nat.succ_mul, Nat.add_comm]
theorem fold_set : ∀ (cs : List Value) (off : Nat) (A B : List Value), A.length = off → cs.length ≤ B.length → ∀ j, (cs.zipIdx j).foldl (fun (D : Array Value) (p : Value × Nat) => D.setIfInBounds (off + p.2 - j) p.1) (A ++ B).toArray = (A ++ cs ++ B.drop cs.length).toArray
  | [], _, A, B, _, _, _ => by simp
  | c :: cs, off, A, [], _, h, _ => by simp at h
  | c :: cs, off, A, b :: B, ha, h, j => by
    rw [List.zipIdx_cons, List.foldl_cons]
    have e1 : ((A ++ b :: B).toArray.setIfInBounds (off + j - j) c) = ((A ++ [c]) ++ B).toArray := by
      rw [Nat.add_sub_cancel]
      subst ha
      simp
    simp only at e1 ⊢
    rw [e1]
    have h2 := fold_set cs (off + 1) (A ++ [c]) B (by simp [ha]) (by simpa using h) (j + 1)
    have e2 : (fun (D : Array Value) (p : Value × Nat) => D.setIfInBounds (off + 1 + p.2 - (j + 1)) p.1) = fun (D : Array Value) (p : Value × Nat) => D.setIfInBounds (off + p.2 - j) p.1 := by
      funext D p
      rw [show off + 1 + p.2 - (j + 1) = off + p.2 - j by omega]
    rw [e2] at h2
    rw [h2]
    simp
theorem fill_parts {sz : Nat} : ∀ {k : Nat} {ps : List (Nat × Value)} {C : List Value}, Parts sz k ps C → ∀ (A B : List Value), A.length = k * sz → B.length = ps.length * sz → Instr.fill (fun i => some (i * sz, sz)) (A ++ B).toArray ps = some (A ++ C).toArray
  | _, _, _, .nil, A, B, _, hB => by
    have : B = [] := by simpa using hB
    subst this
    simp [Instr.fill]
  | k, _, _, .cons (v := v) (cs := cs) (ps := ps) (C := C) h hl hr, A, B, hA, hB => by
    have hc := h.eq
    have hBl : sz ≤ B.length := by rw [hB, List.length_cons, Nat.succ_mul]; omega
    unfold Instr.fill
    simp only [hc, List.size_toArray, hl, List.length_append, hA]
    rw [if_neg (by simp; omega)]
    have hf := fold_set cs (k * sz) A B hA (by omega) 0
    have e : (cs.toArray.zipIdx.foldl (fun D (p : Value × Nat) => D.setIfInBounds (k * sz + p.2) p.1) (A ++ B).toArray) = (A ++ cs ++ B.drop cs.length).toArray := by
      rw [← Array.foldl_toList]
      simpa using hf
    rw [e]
    have := fill_parts hr (A ++ cs) (B.drop cs.length) (by rw [List.length_append, hA, hl, Nat.succ_mul]) (by rw [List.length_drop, hB, hl, List.length_cons, Nat.succ_mul]; omega)
    rw [this, List.append_assoc]
section
variable {P : Program} {S : Nat → Prop} {w0 w : World} {l : List Res} {o : Oper} {a : Act} {K : Act → World → Prop} {Q : Exit → Act → World → Prop}
theorem wp_slice (M : Mem S w0 l w) {t e : TypeId} {sz bytes n : Nat} (E : ElemOf P t e sz bytes) (ps : Array (Nat × Operand)) (ho : o.op = .buildSlice t n ps) (C : List Value) (hp : Parts sz 0 (ps.toList.map fun p => (p.1, a.eval p.2)) C) (hn : ps.size = n) (h0 : 0 < n) (hsm : n * sz ≤ 16777216)
    (h : ∀ g w', Mem S w0 (bx g e C :: l) w' → K (a.put o.dst (.slice (some ⟨g, 0, none⟩) n n)) w') : o.wp P a w K Q := by
  have M' := M.al e C
  obtain ⟨i, z, hi, hz, hsz, hby, hzs⟩ := E.info
  have hpos := E.pos
  have hze : (zeroValue e).run P w = .ok z w := by simp [zeroValue, typeInfo, hi, hz, Sem.run_bind]
  have hsi : (sizeOf e).run P w = .ok sz w := by simp [sizeOf, typeInfo, hi, hsz, Sem.run_bind]
  have hu := run_underlying E.under w
  have hfill : ∀ D : Array Value, D.size = n * sz → Instr.fill (fun i => some (i * sz, sz)) D (ps.toList.map fun p => (p.1, a.eval p.2)) = some C.toArray := fun D hD => by
    have := fill_parts hp [] D.toList (by simp) (by simp [hD, hn])
    simpa using this
  have hnz : 0 < n * sz := Nat.mul_pos h0 hpos
  unfold Oper.wp execOp
  simp only [ho, Instr.buildSlice, Sem.run_bind, hu, hsi, hze, Result.andThen_ok]
  rw [if_neg (show ¬ n * sz > 2 ^ 24 by omega), if_neg (show ¬ n * sz = 0 by omega)]
  simp only [Sem.run_bind, Sem.run_pure, hze, Result.andThen_ok]
  have e : (Array.map (fun (x : Nat × Operand) => (x.1, a.eval x.2)) ps).toList = ps.toList.map fun p => (p.1, a.eval p.2) := by simp
  have hfill' := hfill (Array.map (fun x => z.cells[x % z.cells.size]!) (Array.range (n * sz))) (by simp)
  rw [← e] at hfill'
  rw [hfill']
  go_simp
  exact h _ _ M'
theorem on_slice {dst : Option Tmp} {t ty : TypeId} {n : Nat} {ps : Array (Nat × Operand)} {pos : String} {after : Array Edge} {gd : Option (Nat × Bool)} (h : (Oper.mk dst (.buildSlice t n ps) ty pos after gd).wp P a w K Q) : (Oper.mk dst (.buildSlice t n ps) ty pos after gd).wp P a w K Q := h
end
end Go.Proofs.YtkblkdnihppmnaaGreatDoor
/- Regions whose order is left open, with calls and stores, where what was there ahead of the call is read as well. No program in sight. -/
namespace Go.Proofs.YtkblkdnihppmnaaGreatDoor
set_option linter.unusedSimpArgs false
set_option linter.unusedVariables false
open Go.RowKit Res

/-- as keepR, and the blocks below B stay -/
def keepX (B : Nat) (a : Act) (ss : List Nat) (w w' : World) : Prop := keepR a ss w w' ∧ ∀ b, b < B → w'.heap[b]? = w.heap[b]?
namespace keepX
variable {B : Nat} {a : Act} {ss : List Nat} {w0 w w' : World} {S : Nat → Prop} {l : List Res}
theorem refl (w : World) : keepX B a ss w w := ⟨keepR.refl w, fun _ _ => rfl⟩
theorem trans (x y z : World) (h : keepX B a ss x y) (k : keepX B a ss y z) : keepX B a ss x z := ⟨keepR.trans x y z h.1 k.1, fun b hb => (k.2 b hb).trans (h.2 b hb)⟩
theorem ext (M : Mem S w0 l w) (h : Ext w w') : keepX w0.heap.size a ss w w' := ⟨keepR.ext h, fun b hb => h.block b (Nat.lt_of_lt_of_le hb M.fr.size)⟩
theorem fr {g : Nat} {u : TypeId} {cs : List Value} {f : Res → List Res} (M : Mem (· < w0.heap.size) w0 l w) (p : Pick l (bx g u cs) f) (h : Fr (· ≠ g) w w') (ho : OffB a ss g) : keepX w0.heap.size a ss w w' :=
  ⟨keepR.fr h ho, fun b hb => h.block b (Nat.lt_of_lt_of_le hb M.fr.size) (fun e => M.out _ p.mem g rfl (e ▸ hb))⟩
end keepX
section
variable {P : Program} {S : Nat → Prop} {w0 w : World} {l : List Res} {Q : Exit → Act → World → Prop} {a a0 : Act} {o : Oper} {B : Nat}
theorem wp_region_keepX (M : Mem (· < w0.heap.size) w0 l w) (ss : List Nat) {id : Nat} {L : List Oper} (m : Nat) (sch : List (Nat × Bool)) (hm : P.follows .mixedOrders = true) (hB : regionOk L.toArray m sch = true)
    (hQ : ∀ c a d v w, Q (.panic c) (Act.put a d v) w → Q (.panic c) a w) (h : ∀ w', Mem (· < w0.heap.size) w0 l w' → wpSch P L.toArray Q (keepX w0.heap.size a ss) m sch a w') : (Code.region id L.toArray true).wp P Q a w :=
  wp_region_sch (keepX w0.heap.size a ss) m sch hm hB keepX.refl keepX.trans hQ (h w.drew M.drew)
variable {L : List Oper} {i m : Nat} {sch : List (Nat × Bool)} {ss : List Nat} {dst : Option Tmp} {t ty : TypeId} {x : Operand} {pos : String} {after : Array Edge}
theorem sch_load1X (M : Mem S w0 l w) (s : Nat) (ho : L[i]? = some (Oper.mk dst (.load t x) ty pos after none)) (hs : s ∈ ss) (g j : Nat) (hb : a0.eval (.tmp s) = .pointer (some ⟨g, j, none⟩)) (k : Nat) (hx : a.eval x = .pointer (some ⟨g, k, none⟩)) {u : TypeId} {cs : List Value} {f : Res → List Res}
    (p : Pick l (bx g u cs) f) (hn : OneT P t) (v : Value) (hv : cs[k]? = some v) (h : wpSch P L.toArray Q (keepX B a0 ss) m sch (a.put dst v) w) : wpSch P L.toArray Q (keepX B a0 ss) m ((i, true) :: sch) a w :=
  wpSch_q v ho rfl (fun w' hR => ex_load1 t x rfl ⟨g, k, none⟩ hx hn v (hR.1.2 s hs g j hb k v (by rw [(M.box p).cell]; simpa using hv))) h
theorem sch_loadNX (M : Mem S w0 l w) (s : Nat) (ho : L[i]? = some (Oper.mk dst (.load t x) ty pos after none)) (hs : s ∈ ss) (g j : Nat) (hb : a0.eval (.tmp s) = .pointer (some ⟨g, j, none⟩)) (hx : a.eval x = .pointer (some ⟨g, 0, none⟩)) {u : TypeId} {cs : List Value} {f : Res → List Res}
    (p : Pick l (bx g u cs) f) (hn : RowT P t cs.length) (h : wpSch P L.toArray Q (keepX B a0 ss) m sch (a.put dst (.agg cs.toArray)) w) : wpSch P L.toArray Q (keepX B a0 ss) m ((i, true) :: sch) a w :=
  wpSch_q (.agg cs.toArray) ho rfl (fun w' hR => by
    unfold execOp
    simp only [hx, Instr.loadAt, Instr.sureAddr, Sem.run_bind, Sem.run_pure, Result.andThen_ok, run_loadVar_cells (w := w') hn (g := g) (i := 0) (fun j' u hu => by
      rw [Nat.zero_add]
      exact hR.1.2 s hs g j hb j' u (by rw [(M.box p).cell]; simpa using hu))]) h
variable {ops : Array Oper} {rest : List Oper} {Qs : Act → Prop} {op : Op} {gd : Nat × Bool}
theorem st_g (h : wpStill P ops w Qs (Oper.mk dst op ty pos after (some gd) :: rest) a) : wpStill P ops w Qs (Oper.mk dst op ty pos after (some gd) :: rest) a := h
theorem st_off (hg : Region.wanted (Oper.mk dst op ty pos after (some gd)) (yielded ops a.tmps) = false) (h : wpStill P ops w Qs rest (a.put dst undef)) : wpStill P ops w Qs (Oper.mk dst op ty pos after (some gd) :: rest) a := by
  unfold wpStill
  rw [if_neg (by rw [hg]; simp)]
  exact h
end
end Go.Proofs.YtkblkdnihppmnaaGreatDoor
/- Guarded operations, moves and picks of a region that is walked in one row: by laws, not by simp. No program in sight. -/
namespace Go.Proofs.YtkblkdnihppmnaaGreatDoor
set_option linter.unusedSimpArgs false
set_option linter.unusedVariables false
open Go.RowKit Res

/-- operations that yield a value and nothing else -/
def valueOp2 : Op → Bool
  | .move _ | .assign _ | .pick .. | .binOp .. | .unOp .. | .convert .. | .fieldAddr .. | .field .. | .indexAddr .. | .index .. | .extract .. | .slice .. | .load .. => true
  | _ => false
theorem value2_of {s : Sem Value} {P : Program} {w w' : World} {n : Next} (h : ((do pure (.value (← s)) : Sem Next)).run P w = .ok n w') : ∃ v, n = .value v := by
  rw [Sem.run_bind] at h
  cases hs : s.run P w with
  | ok v w1 => rw [hs] at h; simp only [Result.andThen_ok, Sem.run_pure] at h; injection h with h1 h2; exact ⟨v, h1.symm⟩
  | halt x w1 => rw [hs] at h; simp [Result.andThen] at h
theorem pick_of {s : Sem Bool} {f : Bool → Value} {P : Program} {w w' : World} {n : Next} (h : ((do pure (.value (f (← s))) : Sem Next)).run P w = .ok n w') : ∃ v, n = .value v := by
  rw [Sem.run_bind] at h
  cases hs : s.run P w with
  | ok v w1 => rw [hs] at h; simp only [Result.andThen_ok, Sem.run_pure] at h; injection h with h1 h2; exact ⟨_, h1.symm⟩
  | halt x w1 => rw [hs] at h; simp [Result.andThen] at h
theorem valueOp2_ok {o : Oper} (hq : valueOp2 o.op = true) {ρ : Operand → Value} {P : Program} {w w' : World} {n : Next} (h : (execOp ρ o).run P w = .ok n w') : ∃ v, n = .value v := by
  unfold execOp at h
  obtain ⟨dst, op, ty, pos, after, gd⟩ := o
  cases op <;> first
    | (simp [valueOp2] at hq; done)
    | (exact value2_of h)
    | (simp only [Sem.run_pure] at h; injection h with h1 h2; exact ⟨_, h1.symm⟩)
    | (exact pick_of (f := fun b => if b = true then ρ _ else ρ _) h)
theorem st_quiet2 {P : Program} {w : World} {ops : Array Oper} {rest : List Oper} {Qs : Act → Prop} {a : Act} {o : Oper} (hq : valueOp2 o.op = true) (hg : o.guard = none)
    (h : ∀ K : Act → World → Prop, (∀ a', wpStill P ops w Qs rest a' → K a' w) → o.wp P a w K (fun _ _ _ => False)) : wpStill P ops w Qs (o :: rest) a := by
  have h1 := h (fun a' w' => w' = w ∧ wpStill P ops w Qs rest a') (fun a' h => ⟨rfl, h⟩)
  unfold wpStill Oper.still
  rw [if_pos (by unfold Region.wanted; rw [hg])]
  unfold Oper.wp at h1
  generalize hr : (execOp a.eval o).run P w = r at h1 ⊢
  cases r with
  | ok n w' =>
    obtain ⟨v, rfl⟩ := valueOp2_ok hq hr
    exact h1
  | halt x w' => cases x <;> exact h1.elim
/-- a guard that says yes, in a region that only reads: `c` is there so that the kit's own look at the slot decides whether this law is meant -/
theorem st_on2 {P : Program} {w : World} {ops : Array Oper} {rest : List Oper} {Qs : Act → Prop} {a : Act} {dst : Option Tmp} {op : Op} {ty : TypeId} {pos : String} {after : Array Edge} {gd : Nat × Bool}
    (hg : Region.wanted (Oper.mk dst op ty pos after (some gd)) (yielded ops a.tmps) = true)
    (_c : ∀ Q' : Exit → Act → World → Prop, (∀ a', Q' .normal a' w) → wpList P ops Q' [Oper.mk none (.move (.const undef)) ty pos after (some gd)] a w)
    (h : wpStill P ops w Qs (Oper.mk dst op ty pos after none :: rest) a) : wpStill P ops w Qs (Oper.mk dst op ty pos after (some gd) :: rest) a := by
  unfold wpStill at h ⊢
  rw [if_pos (by unfold Region.wanted; rfl)] at h
  rw [if_pos hg]
  exact h
section
variable {P : Program} {w : World} {Q : Exit → Act → World → Prop} {a : Act} {ops : Array Oper} {rest : List Oper} {dst : Option Tmp} {ty : TypeId} {op : Op} {x y z : Operand} {pos : String} {after : Array Edge} {gd : Nat × Bool}
theorem wl_g (h : wpList P ops Q (Oper.mk dst op ty pos after (some gd) :: rest) a w) : wpList P ops Q (Oper.mk dst op ty pos after (some gd) :: rest) a w := h
theorem wl_off (hg : Region.wanted (Oper.mk dst op ty pos after (some gd)) (yielded ops a.tmps) = false) (h : wpList P ops Q rest (a.put dst undef) w) : wpList P ops Q (Oper.mk dst op ty pos after (some gd) :: rest) a w := by
  unfold wpList
  rw [if_neg (by rw [hg]; simp)]
  exact h
variable {Qs : Act → Prop}
end
end Go.Proofs.YtkblkdnihppmnaaGreatDoor
/- A region whose order is left open, where two things that do something may come up at once: both orders are walked. No program in sight. -/
namespace Go.Proofs.YtkblkdnihppmnaaGreatDoor
set_option linter.unusedSimpArgs false
set_option linter.unusedVariables false
open Go.RowKit

inductive Tr where
  | done : Tr
  | q : Nat → Tr → Tr
  | e : Nat → Tr → Tr
  | fork : Nat → Nat → Tr → Tr → Tr
def Tr.len : Tr → Nat
  | .done => 0
  | .q _ t => t.len + 1
  | .e _ t => t.len + 1
  | .fork _ _ a _ => a.len + 1
section
variable {P : Program} {ops : Array Oper} {Q : Exit → Act → World → Prop} {md : Region.Mode} {R : World → World → Prop} {m : Nat}

def wpTr (P : Program) (ops : Array Oper) (Q : Exit → Act → World → Prop) (R : World → World → Prop) (m : Nat) : Tr → Act → World → Prop
  | .done, a, w => Q .normal a w
  | .q i t, a, w => ∃ oi v, ops[i]? = some oi ∧ YieldsIf P ops (R w) oi v a ∧ wpTr P ops Q R m t (a.put oi.dst v) w
  | .e i t, a, w => wpOp P ops Q i (fun a' w' => (i ≠ m → R w w') ∧ wpTr P ops Q R m t a' w') a w
  | .fork i j s t, a, w => wpOp P ops Q i (fun a' w' => (i ≠ m → R w w') ∧ wpTr P ops Q R m s a' w') a w ∧ wpOp P ops Q j (fun a' w' => (j ≠ m → R w w') ∧ wpTr P ops Q R m t a' w') a w
def trOk (md : Region.Mode) (ops : Array Oper) (m : Nat) : Tr → Array Bool → Bool
  | .done, listed => (Region.ready md ops listed).isEmpty
  | .q i t, listed => i != m && (Region.ready md ops listed).contains i && Region.free md ops listed i && trOk md ops m t (listed.setIfInBounds i true)
  | .e i t, listed => decide (Region.ready md ops listed = [i]) && trOk md ops m t (listed.setIfInBounds i true)
  | .fork i j s t, listed => decide (Region.ready md ops listed = [i, j]) && decide (s.len = t.len) && trOk md ops m s (listed.setIfInBounds i true) && trOk md ops m t (listed.setIfInBounds j true)

theorem wpAnyR_of_tr (hrefl : ∀ w, R w w) (htrans : ∀ a b c, R a b → R b c → R a c) (hlast : lastB md ops m = true) (hs : Region.noSelect ops = true)
    (hQ : ∀ c a d v w, Q (.panic c) (Act.put a d v) w → Q (.panic c) a w) : ∀ (t : Tr) (listed : Array Bool) (a : Act) (w : World), ClosedL md ops listed → trOk md ops m t listed = true →
    wpTr P ops Q R m t a w → wpAnyR P md ops Q R m t.len listed a w
  | .done, listed, a, w, _, hB, h => ⟨by simpa [trOk] using hB, h⟩
  | .q i rest, listed, a, w, hc, hB, h => by
    obtain ⟨oi, v, hoi, hy, hk⟩ := h
    simp only [trOk, Bool.and_eq_true, bne_iff_ne, ne_eq] at hB
    obtain ⟨⟨⟨him, hr⟩, hf⟩, hB'⟩ := hB
    have hr' : i ∈ Region.ready md ops listed := by simpa using hr
    exact wpAnyR_first hrefl htrans hlast hoi him (Region.noSelect_spec hs) (fun c a w => hQ c a oi.dst v w) rest.len listed a w hc (Region.free_spec hoi hf) hr' hy
      (wpAnyR_of_tr hrefl htrans hlast hs hQ rest _ _ w (hc.set hr') hB' hk)
  | .e i rest, listed, a, w, hc, hB, h => by
    simp only [trOk, Bool.and_eq_true, decide_eq_true_eq] at hB
    refine ⟨fun h0 => (by rw [hB.1] at h0; cases h0), fun j hj => ?_⟩
    have hr' : i ∈ Region.ready md ops listed := by rw [hB.1]; simp
    rw [hB.1] at hj
    obtain rfl : j = i := by simpa using hj
    exact wpOp_mono (fun a' w' h' => ⟨h'.1, wpAnyR_of_tr hrefl htrans hlast hs hQ rest _ a' w' (hc.set hr') hB.2 h'.2⟩) h
  | .fork i j s t, listed, a, w, hc, hB, h => by
    simp only [trOk, Bool.and_eq_true, decide_eq_true_eq] at hB
    obtain ⟨⟨⟨hr, hl⟩, hBs⟩, hBt⟩ := hB
    refine ⟨fun h0 => (by rw [hr] at h0; cases h0), fun k hk => ?_⟩
    have hri : i ∈ Region.ready md ops listed := by rw [hr]; simp
    have hrj : j ∈ Region.ready md ops listed := by rw [hr]; simp
    rw [hr] at hk
    have hk' : k = i ∨ k = j := by simpa using hk
    rcases hk' with rfl | rfl
    · exact wpOp_mono (fun a' w' h' => ⟨h'.1, wpAnyR_of_tr hrefl htrans hlast hs hQ s _ a' w' (hc.set hri) hBs h'.2⟩) h.1
    · exact wpOp_mono (fun a' w' h' => ⟨h'.1, by have := wpAnyR_of_tr hrefl htrans hlast hs hQ t _ a' w' (hc.set hrj) hBt h'.2; rwa [← hl] at this⟩) h.2

def regionOk2 (ops : Array Oper) (m : Nat) (t : Tr) : Bool :=
  Region.noSelect ops && lastB .any ops m && decide (t.len = ops.size) && trOk .any ops m t (Array.replicate ops.size false)
theorem wp_region_tr {id : Nat} {l : List Oper} (R : World → World → Prop) (m : Nat) (t : Tr) (hm : P.follows .mixedOrders = true) (hB : regionOk2 l.toArray m t = true)
    (hrefl : ∀ w, R w w) (htrans : ∀ a b c, R a b → R b c → R a c) {a : Act} {w : World} (hQ : ∀ c a d v w, Q (.panic c) (Act.put a d v) w → Q (.panic c) a w)
    (h : wpTr P l.toArray Q R m t a w.drew) : (Code.region id l.toArray true).wp P Q a w := by
  simp only [regionOk2, Bool.and_eq_true, decide_eq_true_eq] at hB
  obtain ⟨⟨⟨hs, hl⟩, hn⟩, hok⟩ := hB
  refine wp_region_any hm ?_
  have hc : ClosedL .any l.toArray (Array.replicate l.toArray.size false) := fun j oj hj hlj => by
    have := rep_false l.toArray.size j
    rw [this] at hlj
    cases hlj
  have := wpAnyR_of_tr hrefl htrans hl hs hQ t _ a w.drew hc hok h
  rw [hn] at this
  exact wpAnyR_any _ _ _ _ this
theorem wpTr_fork {l : List Oper} {i j : Nat} {s t : Tr} {a : Act} {w : World} (h1 : wpTr P l.toArray Q R m (.e i s) a w) (h2 : wpTr P l.toArray Q R m (.e j t) a w) : wpTr P l.toArray Q R m (.fork i j s t) a w := by
  unfold wpTr at *
  exact ⟨h1, h2⟩
end
end Go.Proofs.YtkblkdnihppmnaaGreatDoor
/- A slice that is written out in a region whose order is left open. No program in sight. -/
namespace Go.Proofs.YtkblkdnihppmnaaGreatDoor
set_option linter.unusedSimpArgs false
set_option linter.unusedVariables false
open Go.RowKit Res

section
variable {P : Program} {S : Nat → Prop} {w0 w : World} {l : List Res} {o : Oper} {a : Act} {K : Act → World → Prop} {Q : Exit → Act → World → Prop}
theorem wp_sliceX (M : Mem S w0 l w) {t e : TypeId} {sz bytes n : Nat} (E : ElemOf P t e sz bytes) (ps : Array (Nat × Operand)) (ho : o.op = .buildSlice t n ps) (C : List Value) (hp : Parts sz 0 (ps.toList.map fun p => (p.1, a.eval p.2)) C) (hn : ps.size = n) (h0 : 0 < n) (hsm : n * sz ≤ 16777216)
    (h : ∀ g w', Ext w w' → Mem S w0 (bx g e C :: l) w' → K (a.put o.dst (.slice (some ⟨g, 0, none⟩) n n)) w') : o.wp P a w K Q := by
  have M' := M.al e C
  obtain ⟨i, z, hi, hz, hsz, hby, hzs⟩ := E.info
  have hpos := E.pos
  have hze : (zeroValue e).run P w = .ok z w := by simp [zeroValue, typeInfo, hi, hz, Sem.run_bind]
  have hsi : (sizeOf e).run P w = .ok sz w := by simp [sizeOf, typeInfo, hi, hsz, Sem.run_bind]
  have hu := run_underlying E.under w
  have hfill : ∀ D : Array Value, D.size = n * sz → Instr.fill (fun i => some (i * sz, sz)) D (ps.toList.map fun p => (p.1, a.eval p.2)) = some C.toArray := fun D hD => by
    have := fill_parts hp [] D.toList (by simp) (by simp [hD, hn])
    simpa using this
  have hnz : 0 < n * sz := Nat.mul_pos h0 hpos
  unfold Oper.wp execOp
  simp only [ho, Instr.buildSlice, Sem.run_bind, hu, hsi, hze, Result.andThen_ok]
  rw [if_neg (show ¬ n * sz > 2 ^ 24 by omega), if_neg (show ¬ n * sz = 0 by omega)]
  simp only [Sem.run_bind, Sem.run_pure, hze, Result.andThen_ok]
  have e : (Array.map (fun (x : Nat × Operand) => (x.1, a.eval x.2)) ps).toList = ps.toList.map fun p => (p.1, a.eval p.2) := by simp
  have hfill' := hfill (Array.map (fun x => z.cells[x % z.cells.size]!) (Array.range (n * sz))) (by simp)
  rw [← e] at hfill'
  rw [hfill']
  go_simp
  exact h _ _ (Ext.al w _) M'
theorem wp_allocX (M : Mem S w0 l w) (t : TypeId) (ho : o.op = .alloc t) (v : Value) (hz : (zeroValue t).run P w = .ok v w) (cs : List Value) (hco : CellsOf v cs)
    (h : ∀ g w', Ext w w' → Mem S w0 (bx g t cs :: l) w' → K (a.put o.dst (.pointer (some ⟨g, 0, none⟩))) w') : o.wp P a w K Q := by
  have M' := M.al t cs
  have hc := hco.eq
  unfold Oper.wp execOp
  simp only [ho, Instr.alloc, newVar, newRow, Sem.run_bind, hz, Result.andThen_ok, hc]
  go_simp
  exact h _ _ (Ext.al w _) M'
end
section
variable {P : Program} {w0 w : World} {l : List Res} {Q : Exit → Act → World → Prop} {a a0 : Act} {B : Nat} {R : World → World → Prop}
variable {L : List Oper} {i j m : Nat} {sch : List (Nat × Bool)} {ss : List Nat} {dst : Option Tmp} {t ty : TypeId} {x : Operand} {pos : String} {after : Array Edge}
theorem sch_cellsX (ho : L[i]? = some (Oper.mk dst (.load t x) ty pos after none)) (g k : Nat) (hx : a.eval x = .pointer (some ⟨g, k, none⟩)) (cs : List Value) (hc : ∀ j u, cs[j]? = some u → w.cell? ⟨g, k + j, none⟩ = some u) (hg : g < B) (hn : RowT P t cs.length)
    (h : wpSch P L.toArray Q (keepX B a0 ss) m sch (a.put dst (.agg cs.toArray)) w) : wpSch P L.toArray Q (keepX B a0 ss) m ((i, true) :: sch) a w :=
  wpSch_q (.agg cs.toArray) ho rfl (fun w' hR => by
    unfold execOp
    simp only [hx, Instr.loadAt, Instr.sureAddr, Sem.run_bind, Sem.run_pure, Result.andThen_ok, run_loadVar_cells (w := w') hn (g := g) (i := k) (fun j' u hu => (World.cell?_of_block (w := w) (a := ⟨g, k + j', none⟩) (hR.2 g hg)).trans (hc j' u hu))]) h

/-- a row of operations as a tree, with a tree behind it -/
def Tr.pre : List (Nat × Bool) → Tr → Tr
  | [], t => t
  | (i, true) :: s, t => .q i (Tr.pre s t)
  | (i, false) :: s, t => .e i (Tr.pre s t)
theorem wpTr_pre {ops : Array Oper} {Q2 : Exit → Act → World → Prop} {t : Tr} (h1 : ∀ a w, Q2 .normal a w → wpTr P ops Q R m t a w) (h2 : ∀ e a w, e ≠ .normal → Q2 e a w → Q e a w) :
    ∀ (s : List (Nat × Bool)) (a : Act) (w : World), wpSch P ops Q2 R m s a w → wpTr P ops Q R m (Tr.pre s t) a w
  | [], a, w, h => h1 a w h
  | (i, true) :: s, a, w, h => by
    obtain ⟨oi, v, e1, e2, h⟩ := h
    exact ⟨oi, v, e1, e2, wpTr_pre h1 h2 s _ _ h⟩
  | (i, false) :: s, a, w, h => by
    have h' : wpOp P ops Q2 i (fun a' w' => (i ≠ m → R w w') ∧ wpTr P ops Q R m (Tr.pre s t) a' w') a w := wpOp_mono (fun a' w' h => ⟨h.1, wpTr_pre h1 h2 s _ _ h.2⟩) h
    show wpOp P ops Q i _ a w
    unfold wpOp at h' ⊢
    cases ho : ops[i]? with
    | none => rw [ho] at h'; exact h'
    | some o =>
      rw [ho] at h'
      dsimp only at h' ⊢
      split at h'
      · rename_i hw
        rw [if_pos hw]
        rcases h' with h' | ⟨h3, h4⟩
        · refine .inl ?_
          unfold Oper.wp at *
          generalize (execOp a.eval o).run P w = r at *
          cases r with
          | ok n w' =>
            cases n <;> simp only [Oper.upon] at h' ⊢ <;> first | exact h' | exact h'.mono (fun e w'' he => by cases e <;> first | exact he | exact h2 _ _ _ (by simp) he | (obtain ⟨b, c, d⟩ := he; exact ⟨b, c, h2 _ _ _ (by simp) d⟩))
          | halt x w' => cases x <;> simp only [Oper.upon] at h' ⊢ <;> first | exact h' | exact h2 _ _ _ (by simp) h'
        · obtain ⟨b, c, d⟩ := h4
          exact .inr ⟨h3, b, c, h2 _ _ _ (by simp) d⟩
      · rename_i hw
        rw [if_neg hw]
        exact h'
end
end Go.Proofs.YtkblkdnihppmnaaGreatDoor
/- Appends in a region whose order is left open. No program in sight. -/
namespace Go.Proofs.YtkblkdnihppmnaaGreatDoor
set_option linter.unusedSimpArgs false
set_option linter.unusedVariables false
open Go.RowKit Res

section
variable {P : Program} {S : Nat → Prop} {w0 w : World} {l : List Res} {o : Oper} {a : Act} {K : Act → World → Prop} {Q : Exit → Act → World → Prop}
theorem wp_appendsF (M : Mem S w0 l w) {t e : TypeId} {sz bytes : Nat} (E : ElemOf P t e sz bytes) (s x : Operand) (ho : o.op = .call { callee := .builtin .append, args := #[s, x], argTypes := #[t, t] })
    {α : Type} {f : α → List Value} {A : Option Addr} {c n : Nat} {xs : List α} {F : Res → List Res} (hs : a.eval s = .slice A n c) (p : Pick l (ow e f sz A c xs) F) (hn : n = xs.length) (ys : List α)
    {B : Option Addr} {m cx lo hi : Nat} (hx : a.eval x = .slice B m cx) (hm : m = ys.length) (hrow : Row w lo hi sz B m (ys.flatMap f)) {ad : Addr} (hB : B = some ad) (hf : ∀ x, (f x).length = sz) (h1 : ∀ x, ∀ u ∈ f x, u.oneCell' = true)
    (hsmall : (xs.length + ys.length) * bytes ≤ 140737488355328) (hlen : xs.length + ys.length ≤ 140737488355328)
    (h : ∀ A' c' w', Fr (fun b => ¬ ownBlk A = some b) w w' → Mem S w0 (F (ow e f sz A' c' (xs ++ ys))) w' → K (a.put o.dst (.slice A' (xs.length + ys.length) c')) w') : o.wp P a w K Q := by
  subst hB hn hm
  obtain ⟨i, z, hi, hz, hsz, hby, hzs⟩ := E.info
  have hown := M.own p
  obtain ⟨v', w', hr, h2, h3, h4, h5⟩ := run_append_own_at (P := P) (w := w) (ty := o.type) 0 t e i z sz bytes E.under hi hz hsz hby hzs E.pos (.slice A xs.length c) xs.length (xs.flatMap f) hown ad ys.length cx (ys.flatMap f)
    (length_flatMap' hf ys) (fun j u hj => by
      have hy : 0 < ys.length := by
        cases ys with
        | nil => simp at hj
        | cons y ys => simp
      obtain ⟨b, off, e, _, _, hc⟩ := hrow.mem hy
      injection e with e
      subst e
      rw [add_plain]
      exact hc j u hj) (fun u hu => by obtain ⟨x, _, hx⟩ := List.mem_flatMap.1 hu; exact h1 x u hx) (by unfold maxLen; omega) hsmall (Nat.zero_le _)
  unfold Oper.wp execOp
  simp only [ho, resolve, invoke, builtin, Sem.run_bind, Sem.run_pure, Result.andThen_ok, List.map_toArray, List.map_cons, List.map_nil, hs, hx, hr]
  obtain ⟨A', c', rfl⟩ := own_form h2
  rw [ownBlock_slice] at h3 h5
  rw [ownBlock_slice] at h5
  refine h A' c' w' (Fr.of_grown h3 fun g e _ hg => hg e) (M.put p (Fr.of_grown h3 fun g e _ hg => hg e) _ ?_ fun b hb => ?_)
  · show Own w' 0 e f sz A' c' (xs ++ ys)
    unfold Own
    rw [List.flatMap_append, List.length_append]
    exact h2
  · rcases h5 with h5 | h5
    · exact .inl (by show ownBlk A = some b; rw [← h5]; exact hb)
    · refine .inr ?_
      have hb' : ownBlk A' = some b := hb
      rw [h5] at hb'
      injection hb' with hb'
      omega
theorem wp_append1F (M : Mem S w0 l w) {t e : TypeId} {sz bytes : Nat} (E : ElemOf P t e sz bytes) (s x : Operand) (ho : o.op = .call { callee := .builtin .append, args := #[s, x], argTypes := #[t, t] })
    {α : Type} {f : α → List Value} {A : Option Addr} {c n : Nat} {xs : List α} {F F2 : Res → List Res} (hs : a.eval s = .slice A n c) (g : Nat) (hx : a.eval x = .slice (some ⟨g, 0, none⟩) 1 1) (p : Pick l (ow e f sz A c xs) F) (hn : n = xs.length) (y : α)
    {u : TypeId} {cs : List Value} (p2 : Pick l (bx g u cs) F2) (hcs : cs = f y) (hf : ∀ x, (f x).length = sz) (h1 : ∀ x, ∀ u ∈ f x, u.oneCell' = true)
    (hsmall : (xs.length + 1) * bytes ≤ 140737488355328) (hlen : xs.length + 1 ≤ 140737488355328)
    (h : ∀ A' c' w', Fr (fun b => ¬ ownBlk A = some b) w w' → Mem S w0 (F (ow e f sz A' c' (xs ++ [y]))) w' → K (a.put o.dst (.slice A' (xs.length + 1) c')) w') : o.wp P a w K Q := by
  have hb := M.box p2
  subst hcs
  exact wp_appendsF M E s x ho hs p hn [y] hx rfl (lo := 0) (hi := w.heap.size) ⟨by simp [hf], fun _ => ⟨g, 0, rfl, Nat.zero_le _, hb.lt, fun j u hj => by rw [Nat.zero_add, hb.cell]; simpa using hj⟩⟩ rfl hf h1 hsmall hlen h
end
end Go.Proofs.YtkblkdnihppmnaaGreatDoor
/- Structs within structs, over memory as a list of what lies in it. No program in sight. -/
namespace Go.Proofs.YtkblkdnihppmnaaGreatDoor
set_option linter.unusedSimpArgs false
set_option linter.unusedVariables false
open Go.RowKit Res

section
variable {P : Program} {S : Nat → Prop} {w0 w : World} {l : List Res} {o : Oper} {a : Act} {K : Act → World → Prop} {Q : Exit → Act → World → Prop}
/-- a struct that lies within a block is written -/
theorem wp_storeAt (M : Mem S w0 l w) (t : TypeId) (x y : Operand) (ho : o.op = .store t x y) (g i : Nat) (hx : a.eval x = .pointer (some ⟨g, i, none⟩)) {u : TypeId} {cs : List Value} {f : Res → List Res}
    (p : Pick l (bx g u cs) f) (ws : List Value) (hn : RowT P t ws.length) (hy : a.eval y = .agg ws.toArray) (hi : i + ws.length ≤ cs.length) (h1 : ws.all (·.oneCell') = true) (cs' : List Value) (hcs : cs.take i ++ (ws ++ cs.drop (i + ws.length)) = cs')
    (h : ∀ w', Mem S w0 (f (bx g u cs')) w' → K (a.put o.dst undef) w') : o.wp P a w K Q := by
  have hsz : (sizeOf t).run P w = .ok ws.length w := (hn w).2
  unfold Oper.wp execOp
  simp only [ho, hx, hy, Instr.storeAt, Instr.sureAddr, Sem.run_bind, Sem.run_pure, Result.andThen_ok, run_store_setCells (M.box p) (i := i) (v := .agg ws.toArray) (ws := ws) (by simp; omega) rfl hsz h1]
  have hl : (cs.take i).length = i := by rw [List.length_take]; omega
  have hd : ((cs.drop i).take ws.length ++ (cs.drop i).drop ws.length) = cs.drop i := List.take_append_drop _ _
  obtain ⟨h2, h3⟩ := box_setCells (g := g) (u := u) ws (cs.take i) (cs.drop i) w (by have := M.box p; rw [List.append_assoc, hd, List.take_append_drop]; exact this) (by rw [List.length_drop]; omega)
  rw [hl] at h2 h3
  refine h _ (M.put p (Fr.mono h3 (fun _ _ h e => h e)) _ ?_ (fun _ h => .inl h))
  rw [← hcs, ← List.append_assoc, ← List.drop_drop]
  exact h2
/-- a byte of a text -/
theorem wp_indexT (t : TypeId) (x y : Operand) (ho : o.op = .index t x y) (ht : P.underlying t = some .string) (s : List UInt8) (hx : a.eval x = str s) (k : IntKind) (i : Nat) (hy : a.eval y = .int k i) (c : UInt8) (hc : s[i]? = some c)
    (h : K (a.put o.dst (.int .u8 (c.toNat : Int))) w) : o.wp P a w K Q := by
  have hi : i < s.length := (List.getElem?_eq_some_iff.1 hc).1
  have hg : (⟨s.toArray⟩ : ByteArray)[i]? = some c := by
    have hsz : i < (⟨s.toArray⟩ : ByteArray).size := by show i < s.toArray.size; simpa using hi
    rw [getElem?_pos _ i hsz]
    have h1 : (⟨s.toArray⟩ : ByteArray)[i] = s[i] := by show s.toArray[i] = s[i]; simp
    rw [h1, ← hc, List.getElem?_eq_getElem hi]
  unfold Oper.wp execOp
  have hu := run_underlying ht w
  simp only [ho, hx, hy, Instr.index, asIntOf, Sem.run_bind, Sem.run_pure, Result.andThen_ok, hu]
  rw [if_pos (by omega), Int.toNat_natCast, hg]
  simp only [Sem.run_bind, Sem.run_pure, Result.andThen_ok]
  exact h
theorem run_cutT {t : TypeId} (ht : P.underlying t = some .string) (s : List UInt8) (k k' : IntKind) (i j : Nat) (hij : i ≤ j) (hj : j ≤ s.length) (r : List UInt8) (hr : (s.drop i).take (j - i) = r) (w : World) : (Instr.sliceAt t (str s) (some (.int k i)) (some (.int k' j)) none).run P w = .ok (str r) w := by
  have hu := run_underlying ht w
  have hs : (⟨s.toArray⟩ : ByteArray).size = s.length := by show s.toArray.size = _; simp
  have he : (⟨s.toArray⟩ : ByteArray).extract i j = ⟨r.toArray⟩ := by
    rw [← hr]
    apply ByteArray.ext
    simp
  simp only [Instr.sliceAt, Instr.slice, Instr.sliceBounds, Instr.sliceBound, asIntOf, Sem.run_bind, Sem.run_pure, Result.andThen_ok, hu, hs, Option.isSome_none, Bool.false_eq_true, if_false]
  rw [if_pos (by omega)]
  simp only [Sem.run_bind, Sem.run_pure, Result.andThen_ok, Int.toNat_natCast]
  rw [if_pos (by omega)]
  simp only [Sem.run_bind, Sem.run_pure, Result.andThen_ok, Int.toNat_natCast, he]
/-- a part of a text -/
theorem wp_cutT (t : TypeId) (x y z : Operand) (ho : o.op = .slice t x (some y) (some z) none) (ht : P.underlying t = some .string) (s : List UInt8) (hx : a.eval x = str s) (k k' : IntKind) (i j : Nat) (hy : a.eval y = .int k i) (hz : a.eval z = .int k' j) (hij : i ≤ j) (hj : j ≤ s.length) (r : List UInt8) (hr : (s.drop i).take (j - i) = r)
    (h : K (a.put o.dst (str r)) w) : o.wp P a w K Q := by
  have hu := run_underlying ht w
  have hs : (⟨s.toArray⟩ : ByteArray).size = s.length := by show s.toArray.size = _; simp
  have he : (⟨s.toArray⟩ : ByteArray).extract i j = ⟨r.toArray⟩ := by
    rw [← hr]
    apply ByteArray.ext
    simp
  unfold Oper.wp execOp
  simp only [ho, hx, hy, hz, Option.map_some, Option.map_none, Instr.sliceAt, Instr.slice, Instr.sliceBounds, Instr.sliceBound, asIntOf, Sem.run_bind, Sem.run_pure, Result.andThen_ok, hu, hs, Option.isSome_none, Bool.false_eq_true, if_false]
  rw [if_pos (by omega)]
  simp only [Sem.run_bind, Sem.run_pure, Result.andThen_ok, Int.toNat_natCast]
  rw [if_pos (by omega)]
  simp only [Sem.run_bind, Sem.run_pure, Result.andThen_ok, Int.toNat_natCast, he]
  exact h
/-- the rest of a text -/
theorem wp_restT (t : TypeId) (x y : Operand) (ho : o.op = .slice t x (some y) none none) (ht : P.underlying t = some .string) (s : List UInt8) (hx : a.eval x = str s) (k : IntKind) (i : Nat) (hy : a.eval y = .int k i) (hj : i ≤ s.length) (r : List UInt8) (hr : s.drop i = r)
    (h : K (a.put o.dst (str r)) w) : o.wp P a w K Q := by
  have hu := run_underlying ht w
  have hs : (⟨s.toArray⟩ : ByteArray).size = s.length := by show s.toArray.size = _; simp
  have he : (⟨s.toArray⟩ : ByteArray).extract i s.length = ⟨r.toArray⟩ := by
    rw [← hr]
    apply ByteArray.ext
    simp
    exact List.take_of_length_le (by rw [List.length_drop]; exact Nat.le_refl _)
  unfold Oper.wp execOp
  simp only [ho, hx, hy, Option.map_some, Option.map_none, Instr.sliceAt, Instr.slice, Instr.sliceBounds, Instr.sliceBound, asIntOf, Sem.run_bind, Sem.run_pure, Result.andThen_ok, hu, hs, Option.isSome_none, Bool.false_eq_true, if_false]
  rw [if_pos (by omega)]
  simp only [Sem.run_bind, Sem.run_pure, Result.andThen_ok, Int.toNat_natCast, he]
  exact h
variable {dst : Option Tmp} {t t' ty : TypeId} {x y : Operand} {pos : String} {after : Array Edge} {gd : Option (Nat × Bool)}
theorem on_indexT (h : (Oper.mk dst (.index t x y) ty pos after gd).wp P a w K Q) : (Oper.mk dst (.index t x y) ty pos after gd).wp P a w K Q := h
theorem on_cutT {y z u : Option Operand} (h : (Oper.mk dst (.slice t x y z u) ty pos after gd).wp P a w K Q) : (Oper.mk dst (.slice t x y z u) ty pos after gd).wp P a w K Q := h
theorem on_conv (h : (Oper.mk dst (.convert t t' x) ty pos after gd).wp P a w K Q) : (Oper.mk dst (.convert t t' x) ty pos after gd).wp P a w K Q := h
end
section
variable {P : Program} {S : Nat → Prop} {w0 w : World} {l : List Res} {Q : Exit → Act → World → Prop} {a a0 : Act} {L : List Oper} {i m : Nat} {sch : List (Nat × Bool)} {ss : List Nat} {dst : Option Tmp} {t ty : TypeId} {x : Operand} {pos : String} {after : Array Edge}
/-- a guarded load that is made -/
theorem sch_load1G {gd : Option (Nat × Bool)} (M : Mem S w0 l w) (s : Nat) (ho : L[i]? = some (Oper.mk dst (.load t x) ty pos after gd)) (hw : Region.wanted (Oper.mk dst (.load t x) ty pos after gd) (yielded L.toArray a.tmps) = true) (hs : s ∈ ss) (g j : Nat) (hb : a0.eval (.tmp s) = .pointer (some ⟨g, j, none⟩)) (k : Nat) (hx : a.eval x = .pointer (some ⟨g, k, none⟩)) {u : TypeId} {cs : List Value} {f : Res → List Res}
    (p : Pick l (bx g u cs) f) (hn : OneT P t) (v : Value) (hv : cs[k]? = some v) (h : wpSch P L.toArray Q (keepR a0 ss) m sch (a.put dst v) w) : wpSch P L.toArray Q (keepR a0 ss) m ((i, true) :: sch) a w :=
  wpSch_q v ho hw (fun w' hR => ex_load1 t x rfl ⟨g, k, none⟩ hx hn v (hR.2 s hs g j hb k v (by rw [(M.box p).cell]; simpa using hv))) h
end
end Go.Proofs.YtkblkdnihppmnaaGreatDoor
/- Guarded reads in regions whose order is left open and that call. No program in sight. -/
namespace Go.Proofs.YtkblkdnihppmnaaGreatDoor
set_option linter.unusedSimpArgs false
set_option linter.unusedVariables false
open Go.RowKit Res
section
variable {P : Program} {S : Nat → Prop} {w0 w : World} {l : List Res} {Q : Exit → Act → World → Prop} {a a0 : Act} {B : Nat}
variable {L : List Oper} {i m : Nat} {sch : List (Nat × Bool)} {ss : List Nat} {dst : Option Tmp} {t ty : TypeId} {x : Operand} {pos : String} {after : Array Edge} {gd : Option (Nat × Bool)}
theorem sch_load1XG (M : Mem S w0 l w) (s : Nat) (ho : L[i]? = some (Oper.mk dst (.load t x) ty pos after gd)) (hw : Region.wanted (Oper.mk dst (.load t x) ty pos after gd) (yielded L.toArray a.tmps) = true) (hs : s ∈ ss) (g j : Nat) (hb : a0.eval (.tmp s) = .pointer (some ⟨g, j, none⟩)) (k : Nat) (hx : a.eval x = .pointer (some ⟨g, k, none⟩)) {u : TypeId} {cs : List Value} {f : Res → List Res}
    (p : Pick l (bx g u cs) f) (hn : OneT P t) (v : Value) (hv : cs[k]? = some v) (h : wpSch P L.toArray Q (keepX B a0 ss) m sch (a.put dst v) w) : wpSch P L.toArray Q (keepX B a0 ss) m ((i, true) :: sch) a w :=
  wpSch_q v ho hw (fun w' hR => ex_load1 t x rfl ⟨g, k, none⟩ hx hn v (hR.1.2 s hs g j hb k v (by rw [(M.box p).cell]; simpa using hv))) h
theorem sch_loadNXG (M : Mem S w0 l w) (s : Nat) (ho : L[i]? = some (Oper.mk dst (.load t x) ty pos after gd)) (hw : Region.wanted (Oper.mk dst (.load t x) ty pos after gd) (yielded L.toArray a.tmps) = true) (hs : s ∈ ss) (g j : Nat) (hb : a0.eval (.tmp s) = .pointer (some ⟨g, j, none⟩)) (hx : a.eval x = .pointer (some ⟨g, 0, none⟩)) {u : TypeId} {cs : List Value} {f : Res → List Res}
    (p : Pick l (bx g u cs) f) (hn : RowT P t cs.length) (h : wpSch P L.toArray Q (keepX B a0 ss) m sch (a.put dst (.agg cs.toArray)) w) : wpSch P L.toArray Q (keepX B a0 ss) m ((i, true) :: sch) a w :=
  wpSch_q (.agg cs.toArray) ho hw (fun w' hR => by
    unfold execOp
    simp only [hx, Instr.loadAt, Instr.sureAddr, Sem.run_bind, Sem.run_pure, Result.andThen_ok, run_loadVar_cells (w := w') hn (g := g) (i := 0) (fun j' u hu => by
      rw [Nat.zero_add]
      exact hR.1.2 s hs g j hb j' u (by rw [(M.box p).cell]; simpa using hu))]) h
theorem sch_cellXG (ho : L[i]? = some (Oper.mk dst (.load t x) ty pos after gd)) (hw : Region.wanted (Oper.mk dst (.load t x) ty pos after gd) (yielded L.toArray a.tmps) = true) (g k : Nat) (hx : a.eval x = .pointer (some ⟨g, k, none⟩)) (v : Value) (hv : w.cell? ⟨g, k, none⟩ = some v) (hg : g < B) (hn : OneT P t)
    (h : wpSch P L.toArray Q (keepX B a0 ss) m sch (a.put dst v) w) : wpSch P L.toArray Q (keepX B a0 ss) m ((i, true) :: sch) a w :=
  wpSch_q v ho hw (fun w' hR => ex_load1 t x rfl ⟨g, k, none⟩ hx hn v ((World.cell?_of_block (w := w) (a := ⟨g, k, none⟩) (hR.2 g hg)).trans hv)) h
/-- a store of one cell of any make (an interface value too) -/
theorem wp_store1V {o : Oper} {K : Act → World → Prop} (M : Mem S w0 l w) (t : TypeId) (x y : Operand) (ho : o.op = .store t x y) (g i : Nat) (hx : a.eval x = .pointer (some ⟨g, i, none⟩)) {u : TypeId} {cs : List Value} {f : Res → List Res}
    (p : Pick l (bx g u cs) f) (hn : OneT P t) (v : Value) (hco : (a.eval y).cells = #[v]) (h1 : v.oneCell' = true) (hi : i < cs.length)
    (h : ∀ w', Fr (· ≠ g) w w' → Mem S w0 (f (bx g u (cs.set i v))) w' → K (a.put o.dst undef) w') : o.wp P a w K Q := by
  have hsz : (sizeOf t).run P w = .ok [v].length w := (hn w).2
  unfold Oper.wp execOp
  simp only [ho, hx, Instr.storeAt, Instr.sureAddr, Sem.run_bind, Sem.run_pure, Result.andThen_ok, run_store_setCells (M.box p) (i := i) (ws := [v]) (by simp; omega) hco hsz (by simp [h1])]
  exact h _ (Fr.set (p := ⟨g, i, none⟩) (Fr.refl w) v (fun _ h => h rfl)) (M.set p i v)
end
end Go.Proofs.YtkblkdnihppmnaaGreatDoor
/- Regions whose order is left open, with calls that may panic, in a function that defers (its results are read from cells). No program in sight. -/
namespace Go.Proofs.YtkblkdnihppmnaaGreatDoor
set_option linter.unusedSimpArgs false
set_option linter.unusedVariables false
open Go.RowKit Res
section
variable {P : Program} {S : Nat → Prop} {w0 w : World} {l : List Res} {a : Act}
theorem wpAnyR_of_schD {md : Region.Mode} {ops : Array Oper} {Q : Exit → Act → World → Prop} {R : World → World → Prop} {m : Nat} (hrefl : ∀ w, R w w) (htrans : ∀ a b c, R a b → R b c → R a c) (hlast : lastB md ops m = true) (hs : Region.noSelect ops = true)
    (hQ : ∀ (i : Nat) (o : Oper), ops[i]? = some o → ∀ c a v w, Q (.panic c) (Act.put a o.dst v) w → Q (.panic c) a w) : ∀ (sch : List (Nat × Bool)) (listed : Array Bool) (a : Act) (w : World), ClosedL md ops listed → schOk md ops m sch listed = true →
    wpSch P ops Q R m sch a w → wpAnyR P md ops Q R m sch.length listed a w
  | [], listed, a, w, _, hB, h => ⟨by simpa [schOk] using hB, h⟩
  | (i, true) :: rest, listed, a, w, hc, hB, h => by
    obtain ⟨oi, v, hoi, hy, hk⟩ := h
    simp only [schOk, Bool.and_eq_true, bne_iff_ne, ne_eq] at hB
    obtain ⟨⟨⟨him, hr⟩, hf⟩, hB'⟩ := hB
    have hr' : i ∈ Region.ready md ops listed := by simpa using hr
    exact wpAnyR_first hrefl htrans hlast hoi him (Region.noSelect_spec hs) (fun c a w => hQ i oi hoi c a v w) rest.length listed a w hc (Region.free_spec hoi hf) hr' hy
      (wpAnyR_of_schD hrefl htrans hlast hs hQ rest _ _ w (hc.set hr') hB' hk)
  | (i, false) :: rest, listed, a, w, hc, hB, h => by
    simp only [schOk, Bool.and_eq_true, decide_eq_true_eq] at hB
    refine ⟨fun h0 => (by rw [hB.1] at h0; cases h0), fun j hj => ?_⟩
    have hr' : i ∈ Region.ready md ops listed := by rw [hB.1]; simp
    rw [hB.1] at hj
    obtain rfl : j = i := by simpa using hj
    exact wpOp_mono (fun a' w' h' => ⟨h'.1, wpAnyR_of_schD hrefl htrans hlast hs hQ rest _ a' w' (hc.set hr') hB.2 h'.2⟩) h
theorem wp_region_schD {id : Nat} {l : List Oper} {Q : Exit → Act → World → Prop} (R : World → World → Prop) (m : Nat) (sch : List (Nat × Bool)) (hm : P.follows .mixedOrders = true) (hB : regionOk l.toArray m sch = true)
    (hrefl : ∀ w, R w w) (htrans : ∀ a b c, R a b → R b c → R a c) (hQ : ∀ (i : Nat) (o : Oper), l.toArray[i]? = some o → ∀ c a v w, Q (.panic c) (Act.put a o.dst v) w → Q (.panic c) a w)
    (h : wpSch P l.toArray Q R m sch a w.drew) : (Code.region id l.toArray true).wp P Q a w := by
  simp only [regionOk, Bool.and_eq_true, decide_eq_true_eq] at hB
  obtain ⟨⟨⟨hs, hl⟩, hn⟩, hok⟩ := hB
  refine wp_region_any hm ?_
  have hc : ClosedL .any l.toArray (Array.replicate l.toArray.size false) := fun j oj hj hlj => by
    have := rep_false l.toArray.size j
    rw [this] at hlj
    cases hlj
  have := wpAnyR_of_schD hrefl htrans hl hs hQ sch _ a w.drew hc hok h
  rw [hn] at this
  exact wpAnyR_any _ _ _ _ this
theorem leaves_congr {fn : Func} {t t' : Array Value} {R : Ending → World → Prop} (h : results fn t = results fn t') : ∀ (ds : List Deferred) (u : FrameMode) (w : World), Leaves P fn t R ds u w → Leaves P fn t' R ds u w
  | [], .returning, w, hl => by
    obtain ⟨v, h1, h2⟩ := hl
    exact ⟨v, by rw [← h]; exact h1, h2⟩
  | [], .panicking c, w, hl => hl
  | [], .run, w, hl => hl.elim
  | d :: ds, u, w, hl => by
    obtain ⟨h0, fv, cap, f, args, h1, h2, h3⟩ := hl
    refine ⟨h0, fv, cap, f, args, h1, h2, h3.mono fun e u' w' hx => ?_⟩
    cases e with
    | returned v => exact leaves_congr h ds _ _ hx
    | panicked c => exact leaves_congr h ds _ _ hx
    | outgrown => exact hx
theorem results_put {fn : Func} {a0 a1 a2 : Tmp} {t0 t1 t2 : TypeId} (hres : fn.results = #[.cell a0 t0, .cell a1 t1, .cell a2 t2]) {d : Option Tmp} (hd : (d != some a0 && d != some a1 && d != some a2) = true) (v : Value) : results fn (Act.put a d v).tmps = results fn a.tmps := by
  cases d with
  | none => rfl
  | some d =>
    simp only [Bool.and_eq_true, bne_iff_ne, ne_eq, Option.some.injEq] at hd
    have key : ∀ k : Nat, ¬ d = k → (a.tmps.setIfInBounds d v)[k]?.getD undef = a.tmps[k]?.getD undef := fun k hk => by
      simp [Array.getElem?_setIfInBounds, hk]
    simp only [results, hres, Act.put]
    simp [key a0 hd.1.1, key a1 hd.1.2, key a2 hd.2]
theorem wp_region_keepD {fn : Func} {R : Ending → World → Prop} {K : Act → World → Prop} (M : Mem S w0 l w) (ss : List Nat) {id : Nat} {L : List Oper} (m : Nat) (sch : List (Nat × Bool)) (hm : P.follows .mixedOrders = true) (hB : regionOk L.toArray m sch = true) {a0 a1 a2 : Tmp} {t0 t1 t2 : TypeId}
    (hres : fn.results = #[.cell a0 t0, .cell a1 t1, .cell a2 t2]) (hoff : (L.all fun o => o.dst != some a0 && o.dst != some a1 && o.dst != some a2) = true)
    (h : ∀ w', Mem S w0 l w' → wpSch P L.toArray (Exit.then K (bodyPostD P fn R)) (keepR a ss) m sch a w') : (Code.region id L.toArray true).wp P (Exit.then K (bodyPostD P fn R)) a w :=
  wp_region_schD (keepR a ss) m sch hm hB keepR.refl keepR.trans (fun i o ho c a v w hq => by
    have hm : o ∈ L := by
      have : L[i]? = some o := by simpa using ho
      exact List.mem_of_getElem? this
    have hd := List.all_eq_true.1 hoff o hm
    have hq : Leaves P fn (Act.put a o.dst v).tmps R (Act.put a o.dst v).defers (.panicking c) w := hq
    have e : (Act.put a o.dst v).defers = a.defers := by cases o.dst <;> rfl
    rw [e] at hq
    exact leaves_congr (results_put hres hd v) _ _ _ hq) (h w.drew M.drew)
end
end Go.Proofs.YtkblkdnihppmnaaGreatDoor
/- A region whose order is left open, walked as a tree: wherever two that do something may come up at once, both orders. No program in sight. -/
namespace Go.Proofs.YtkblkdnihppmnaaGreatDoor
set_option linter.unusedSimpArgs false
set_option linter.unusedVariables false
open Go.RowKit Res

section
variable {P : Program} {S : Nat → Prop} {w0 w : World} {l : List Res} {Q : Exit → Act → World → Prop} {a : Act} {ops : Array Oper} {R : World → World → Prop} {m : Nat}
/-- what the rest of a tree must come to -/
def treeQ (P : Program) (ops : Array Oper) (Q : Exit → Act → World → Prop) (R : World → World → Prop) (m : Nat) (t : Tr) : Exit → Act → World → Prop
  | .normal, a, w => wpTr P ops Q R m t a w
  | .panic c, a, w => Q (.panic c) a w
  | e, a, w => Q e a w
theorem treeQ_pre {t : Tr} (s : List (Nat × Bool)) (a : Act) (w : World) (h : wpSch P ops (treeQ P ops Q R m t) R m s a w) : wpTr P ops Q R m (Tr.pre s t) a w :=
  wpTr_pre (fun _ _ h => h) (fun e _ _ he h => by cases e <;> first | exact absurd rfl he | exact h) s a w h
theorem treeQ_done (h : Q .normal a w) : treeQ P ops Q R m .done .normal a w := h
theorem treeQ_fork {L : List Oper} {i j : Nat} {s1 s2 : List (Nat × Bool)} {t1 t2 : Tr} (h1 : wpSch P L.toArray (treeQ P L.toArray Q R m t1) R m ((i, false) :: s1) a w) (h2 : wpSch P L.toArray (treeQ P L.toArray Q R m t2) R m ((j, false) :: s2) a w) :
    treeQ P L.toArray Q R m (.fork i j (Tr.pre s1 t1) (Tr.pre s2 t2)) .normal a w := wpTr_fork (treeQ_pre ((i, false) :: s1) a w h1) (treeQ_pre ((j, false) :: s2) a w h2)
theorem wp_region_treeR (M : Mem S w0 l w) (ss : List Nat) {id : Nat} {L : List Oper} (m : Nat) (pre : List (Nat × Bool)) (t : Tr) (hm : P.follows .mixedOrders = true)
    (hB : regionOk2 L.toArray m (Tr.pre pre t) = true)
    (hQ : ∀ c a d v w, Q (.panic c) (Act.put a d v) w → Q (.panic c) a w)
    (h : ∀ w', Mem S w0 l w' → wpSch P L.toArray (treeQ P L.toArray Q (keepR a ss) m t) (keepR a ss) m pre a w') : (Code.region id L.toArray true).wp P Q a w :=
  wp_region_tr (keepR a ss) m _ hm hB keepR.refl keepR.trans hQ (treeQ_pre pre a w.drew (h w.drew M.drew))
end
section
variable {P : Program} {w0 w : World} {l : List Res} {Q : Exit → Act → World → Prop} {a : Act}
end
/-- none of the slots' blocks is the row's -/
def OffO (a : Act) (ss : List Nat) (A : Option Addr) : Prop := ∀ s ∈ ss, ∀ g' i, a.eval (.tmp s) = .pointer (some ⟨g', i, none⟩) → ¬ ownBlk A = some g'
theorem OffO.nil {a : Act} {A : Option Addr} : OffO a [] A := fun _ h => by cases h
theorem OffO.cons {a : Act} {s : Nat} {ss : List Nat} {A : Option Addr} {g' i : Nat} (hb : a.eval (.tmp s) = .pointer (some ⟨g', i, none⟩)) (hne : ¬ ownBlk A = some g') (h : OffO a ss A) : OffO a (s :: ss) A := fun t ht k j hk => by
  rcases List.mem_cons.1 ht with rfl | ht
  · rw [hb] at hk
    injection hk with hk
    injection hk with hk
    injection hk with hk
    subst hk
    exact hne
  · exact h t ht k j hk
theorem keepR.frO {a : Act} {ss : List Nat} {A : Option Addr} {w w' : World} (h : Fr (fun b => ¬ ownBlk A = some b) w w') (ho : OffO a ss A) : keepR a ss w w' :=
  ⟨h.size, fun s hs g' i hb o v hv => (World.cell?_of_block (w := w) (a := ⟨g', o, none⟩) (h.block g' (block_lt_of_cell hv) (ho s hs g' i hb))).trans hv⟩
theorem Mem.ne_ow {S : Nat → Prop} {w0 w : World} {l : List Res} (M : Mem S w0 l w) {g : Nat} {u : TypeId} {cs : List Value} {α : Type} {e : TypeId} {f : α → List Value} {sz : Nat} {A : Option Addr} {c : Nat} {xs : List α} {rest : List Res} (t : Takes l [bx g u cs, ow e f sz A c xs] rest) : ¬ ownBlk A = some g := fun h =>
  (List.pairwise_cons.1 (M.sub t).apart).1 (ow e f sz A c xs) (by simp) g rfl h
end Go.Proofs.YtkblkdnihppmnaaGreatDoor
/- The laws of memory in short forms: what can be found is found by itself. No program in sight. -/
namespace Go.Proofs.YtkblkdnihppmnaaGreatDoor
set_option linter.unusedSimpArgs false
set_option linter.unusedVariables false
open Go.RowKit Res

section
variable {P : Program} {S : Nat → Prop} {w0 w : World} {l : List Res} {a : Act} {K : Act → World → Prop} {Q : Exit → Act → World → Prop} {d : Tmp} {t ty u e : TypeId} {x y : Operand} {pos : String} {after : Array Edge} {gd : Option (Nat × Bool)} {g i : Nat} {cs ws : List Value} {v : Value} {f : Res → List Res}
theorem xl1 (M : Mem S w0 l w) (h : (Oper.mk (some d) (.move (.const v)) 0 "" #[] none).wp P a w K (fun _ _ _ => True)) (hx : a.eval x = .pointer (some ⟨g, i, none⟩) := by rfl) (p : Pick l (bx g u cs) f := by repeat (first | exact Pick.head | apply Pick.tail)) (hn : OneT P t := by exact (fun w => ⟨by first | (simp [go_sem]; done) | (simp [go_sem]; rfl), by first | (simp [go_sem]; done) | (simp [go_sem]; rfl)⟩)) (hv : cs[i]? = some v := by rfl) :
    (Oper.mk (some d) (.load t x) ty pos after gd).wp P a w K Q := wp_load1 M _ _ rfl g i hx p hn v hv h
theorem xlN (M : Mem S w0 l w) (h : (Oper.mk (some d) (.move (.const (.agg cs.toArray))) 0 "" #[] none).wp P a w K (fun _ _ _ => True)) (hx : a.eval x = .pointer (some ⟨g, 0, none⟩) := by rfl) (p : Pick l (bx g u cs) f := by repeat (first | exact Pick.head | apply Pick.tail)) (hn : RowT P t cs.length := by exact (fun w => ⟨by first | (simp [go_sem]; done) | (simp [go_sem]; rfl), by first | (simp [go_sem]; done) | (simp [go_sem]; rfl)⟩)) :
    (Oper.mk (some d) (.load t x) ty pos after gd).wp P a w K Q := wp_loadN M _ _ rfl g hx p hn h
theorem xlC (hv : w.cell? ⟨g, i, none⟩ = some v) (h : (Oper.mk (some d) (.move (.const v)) 0 "" #[] none).wp P a w K (fun _ _ _ => True)) (hx : a.eval x = .pointer (some ⟨g, i, none⟩) := by rfl) (hn : OneT P t := by exact (fun w => ⟨by first | (simp [go_sem]; done) | (simp [go_sem]; rfl), by first | (simp [go_sem]; done) | (simp [go_sem]; rfl)⟩)) :
    (Oper.mk (some d) (.load t x) ty pos after gd).wp P a w K Q := wp_load1C _ _ rfl g i hx v hv hn h
theorem xlR (hv : ∀ j u, cs[j]? = some u → w.cell? ⟨g, i + j, none⟩ = some u) (h : (Oper.mk (some d) (.move (.const (.agg cs.toArray))) 0 "" #[] none).wp P a w K (fun _ _ _ => True)) (hx : a.eval x = .pointer (some ⟨g, i, none⟩) := by rfl) (hn : RowT P t cs.length := by exact (fun w => ⟨by first | (simp [go_sem]; done) | (simp [go_sem]; rfl), by first | (simp [go_sem]; done) | (simp [go_sem]; rfl)⟩)) :
    (Oper.mk (some d) (.load t x) ty pos after gd).wp P a w K Q := wp_loadNC _ _ rfl g i hx cs hv hn h
theorem xs1 (M : Mem S w0 l w) (h : ∀ w', Mem S w0 (f (bx g u (cs.set i v))) w' → K a w') (hx : a.eval x = .pointer (some ⟨g, i, none⟩) := by rfl) (p : Pick l (bx g u cs) f := by repeat (first | exact Pick.head | apply Pick.tail)) (hn : OneT P t := by exact (fun w => ⟨by first | (simp [go_sem]; done) | (simp [go_sem]; rfl), by first | (simp [go_sem]; done) | (simp [go_sem]; rfl)⟩)) (hco : CellsOf (a.eval y) [v] := by first | exact CellsOf.agg _ | exact CellsOf.int _ _ | exact CellsOf.str _ | exact CellsOf.bool _ | exact CellsOf.slice _ _ _ | exact CellsOf.pointer _) (h1 : v.oneCell' = true := by rfl) (hi : i < cs.length := by (simp; done)) :
    (Oper.mk none (.store t x y) ty pos after gd).wp P a w K Q := wp_store1 M _ _ _ rfl g i hx p hn v hco h1 hi h
theorem xsN (M : Mem S w0 l w) (h : ∀ w', Mem S w0 (f (bx g u ws)) w' → K a w') (hx : a.eval x = .pointer (some ⟨g, 0, none⟩) := by rfl) (p : Pick l (bx g u cs) f := by repeat (first | exact Pick.head | apply Pick.tail)) (hn : RowT P t cs.length := by exact (fun w => ⟨by first | (simp [go_sem]; done) | (simp [go_sem]; rfl), by first | (simp [go_sem]; done) | (simp [go_sem]; rfl)⟩)) (hy : a.eval y = .agg ws.toArray := by rfl) (hl : ws.length = cs.length := by rfl) (h1 : ws.all (·.oneCell') = true := by rfl) :
    (Oper.mk none (.store t x y) ty pos after gd).wp P a w K Q := wp_storeN M _ _ _ rfl g hx p hn ws hy hl h1 h
theorem xsA (M : Mem S w0 l w) {cs' : List Value} (h : ∀ w', Mem S w0 (f (bx g u cs')) w' → K a w') (hx : a.eval x = .pointer (some ⟨g, i, none⟩) := by rfl) (p : Pick l (bx g u cs) f := by repeat (first | exact Pick.head | apply Pick.tail)) (hy : a.eval y = .agg ws.toArray := by rfl) (hn : RowT P t ws.length := by exact (fun w => ⟨by first | (simp [go_sem]; done) | (simp [go_sem]; rfl), by first | (simp [go_sem]; done) | (simp [go_sem]; rfl)⟩)) (hi : i + ws.length ≤ cs.length := by simp) (h1 : ws.all (·.oneCell') = true := by rfl) (hcs : cs.take i ++ (ws ++ cs.drop (i + ws.length)) = cs' := by rfl) :
    (Oper.mk none (.store t x y) ty pos after gd).wp P a w K Q := wp_storeAt M _ _ _ rfl g i hx p ws hn hy hi h1 cs' hcs h
theorem xb (M : Mem S w0 l w) (h : ∀ g w', Mem S w0 (bx g t cs :: l) w' → (Oper.mk (some d) (.move (.const (.pointer (some ⟨g, 0, none⟩)))) 0 "" #[] none).wp P a w' K (fun _ _ _ => True)) (hco : CellsOf (a.eval x) cs := by first | exact CellsOf.agg _ | exact CellsOf.int _ _ | exact CellsOf.str _ | exact CellsOf.bool _ | exact CellsOf.slice _ _ _ | exact CellsOf.pointer _) :
    (Oper.mk (some d) (.box t x) ty pos after gd).wp P a w K Q := wp_box M _ _ rfl cs hco h
theorem xa (M : Mem S w0 l w) (h : ∀ g w', Mem S w0 (bx g t cs :: l) w' → (Oper.mk (some d) (.move (.const (.pointer (some ⟨g, 0, none⟩)))) 0 "" #[] none).wp P a w' K (fun _ _ _ => True)) (hz : (zeroValue t).run P w = .ok v w := by (simp [go_sem]; rfl)) (hco : CellsOf v cs := by first | exact CellsOf.agg _ | exact CellsOf.int _ _ | exact CellsOf.str _ | exact CellsOf.bool _ | exact CellsOf.slice _ _ _ | exact CellsOf.pointer _) :
    (Oper.mk (some d) (.alloc t) ty pos after gd).wp P a w K Q := wp_alloc M _ rfl v hz cs hco h
theorem x1 (M : Mem S w0 l w) {sz bytes : Nat} (E : ElemOf P t e sz bytes) (h : ∀ g w', Mem S w0 (bx g e cs :: l) w' → (Oper.mk (some d) (.move (.const (.slice (some ⟨g, 0, none⟩) 1 1))) 0 "" #[] none).wp P a w' K (fun _ _ _ => True)) (hco : CellsOf (a.eval x) cs := by first | exact CellsOf.agg _ | exact CellsOf.int _ _ | exact CellsOf.str _ | exact CellsOf.bool _ | exact CellsOf.slice _ _ _ | exact CellsOf.pointer _) (hl : cs.length = sz := by rfl) (hsm : sz ≤ 16777216 := by decide) :
    (Oper.mk (some d) (.buildSlice t 1 #[(0, x)]) ty pos after gd).wp P a w K Q := wp_single M E x rfl cs hco hl hsm h
/-- an append of one made for it -/
theorem xap (M : Mem S w0 l w) {sz bytes : Nat} (E : ElemOf P t e sz bytes) {α : Type} {F : α → List Value} {A : Option Addr} {c n : Nat} {xs : List α} {f2 : Res → List Res} (z : α) (hf : ∀ x, (F x).length = sz) (h1 : ∀ x, ∀ u ∈ F x, u.oneCell' = true)
    (h : ∀ A' c' w', Mem S w0 (f (ow e F sz A' c' (xs ++ [z]))) w' → (Oper.mk (some d) (.move (.const (.slice A' (xs.length + 1) c'))) 0 "" #[] none).wp P a w' K (fun _ _ _ => True))
    (hs : a.eval x = .slice A n c := by rfl) (hx : a.eval y = .slice (some ⟨g, 0, none⟩) 1 1 := by rfl) (p : Pick l (ow e F sz A c xs) f := by repeat (first | exact Pick.head | apply Pick.tail)) (hn : n = xs.length := by first | with_reducible rfl | (simp; done) | (simp; omega)) (p2 : Pick l (bx g u cs) f2 := by repeat (first | exact Pick.head | apply Pick.tail)) (hcs : cs = F z := by rfl)
    (hsmall : (xs.length + 1) * bytes ≤ 140737488355328 := by first | omega | (simp; done) | (simp; omega)) (hlen : xs.length + 1 ≤ 140737488355328 := by first | omega | (simp; done) | (simp; omega)) :
    (Oper.mk (some d) (.call ⟨.builtin .append, #[x, y], #[t, t]⟩) ty pos after gd).wp P a w K Q := by
  subst hcs
  exact wp_append1F M E _ _ rfl hs g hx p hn z p2 rfl hf h1 hsmall hlen (fun A' c' w' _ M' => h A' c' w' M')
end
section
variable {P : Program} {S : Nat → Prop} {w0 w : World} {l : List Res} {Q : Exit → Act → World → Prop} {a a0 : Act} {L : List Oper} {B j m i k : Nat} {sch : List (Nat × Bool)} {ss : List Nat} {dst : Option Tmp} {t ty u : TypeId} {x : Operand} {pos : String} {after : Array Edge} {g : Nat} {cs : List Value} {v : Value} {f : Res → List Res}
theorem zl1 (M : Mem S w0 l w) (s : Nat) (h : wpSch P L.toArray Q (keepR a0 ss) m sch (a.put dst v) w) (ho : L[i]? = some (Oper.mk dst (.load t x) ty pos after none) := by rfl) (hs : s ∈ ss := by decide) (hb : a0.eval (.tmp s) = .pointer (some ⟨g, j, none⟩) := by rfl) (hx : a.eval x = .pointer (some ⟨g, k, none⟩) := by rfl) (p : Pick l (bx g u cs) f := by repeat (first | exact Pick.head | apply Pick.tail)) (hn : OneT P t := by exact (fun w => ⟨by first | (simp [go_sem]; done) | (simp [go_sem]; rfl), by first | (simp [go_sem]; done) | (simp [go_sem]; rfl)⟩)) (hv : cs[k]? = some v := by rfl) :
    wpSch P L.toArray Q (keepR a0 ss) m ((i, true) :: sch) a w := sch_load1 M s ho hs g j hb k hx p hn v hv h
theorem zlN (M : Mem S w0 l w) (s : Nat) (h : wpSch P L.toArray Q (keepR a0 ss) m sch (a.put dst (.agg cs.toArray)) w) (ho : L[i]? = some (Oper.mk dst (.load t x) ty pos after none) := by rfl) (hs : s ∈ ss := by decide) (hb : a0.eval (.tmp s) = .pointer (some ⟨g, j, none⟩) := by rfl) (hx : a.eval x = .pointer (some ⟨g, 0, none⟩) := by rfl) (p : Pick l (bx g u cs) f := by repeat (first | exact Pick.head | apply Pick.tail)) (hn : RowT P t cs.length := by exact (fun w => ⟨by first | (simp [go_sem]; done) | (simp [go_sem]; rfl), by first | (simp [go_sem]; done) | (simp [go_sem]; rfl)⟩)) :
    wpSch P L.toArray Q (keepR a0 ss) m ((i, true) :: sch) a w := sch_loadN M s ho hs g j hb hx p hn h
theorem zl1X (M : Mem S w0 l w) (s : Nat) (h : wpSch P L.toArray Q (keepX B a0 ss) m sch (a.put dst v) w) (ho : L[i]? = some (Oper.mk dst (.load t x) ty pos after none) := by rfl) (hs : s ∈ ss := by decide) (hb : a0.eval (.tmp s) = .pointer (some ⟨g, j, none⟩) := by rfl) (hx : a.eval x = .pointer (some ⟨g, k, none⟩) := by rfl) (p : Pick l (bx g u cs) f := by repeat (first | exact Pick.head | apply Pick.tail)) (hn : OneT P t := by exact (fun w => ⟨by first | (simp [go_sem]; done) | (simp [go_sem]; rfl), by first | (simp [go_sem]; done) | (simp [go_sem]; rfl)⟩)) (hv : cs[k]? = some v := by rfl) :
    wpSch P L.toArray Q (keepX B a0 ss) m ((i, true) :: sch) a w := sch_load1X M s ho hs g j hb k hx p hn v hv h
theorem zlNX (M : Mem S w0 l w) (s : Nat) (h : wpSch P L.toArray Q (keepX B a0 ss) m sch (a.put dst (.agg cs.toArray)) w) (ho : L[i]? = some (Oper.mk dst (.load t x) ty pos after none) := by rfl) (hs : s ∈ ss := by decide) (hb : a0.eval (.tmp s) = .pointer (some ⟨g, j, none⟩) := by rfl) (hx : a.eval x = .pointer (some ⟨g, 0, none⟩) := by rfl) (p : Pick l (bx g u cs) f := by repeat (first | exact Pick.head | apply Pick.tail)) (hn : RowT P t cs.length := by exact (fun w => ⟨by first | (simp [go_sem]; done) | (simp [go_sem]; rfl), by first | (simp [go_sem]; done) | (simp [go_sem]; rfl)⟩)) :
    wpSch P L.toArray Q (keepX B a0 ss) m ((i, true) :: sch) a w := sch_loadNX M s ho hs g j hb hx p hn h
end
section
variable {P : Program} {S : Nat → Prop} {w0 w : World} {l : List Res} {a : Act} {K : Act → World → Prop} {Q : Exit → Act → World → Prop} {t ty u : TypeId} {x y : Operand} {pos : String} {after : Array Edge} {gd : Option (Nat × Bool)} {g i : Nat} {cs ws : List Value} {v : Value} {f : Res → List Res}
theorem zs1 (M : Mem S w0 l w) (h : ∀ w', Fr (· ≠ g) w w' → Mem S w0 (f (bx g u (cs.set i v))) w' → K a w') (hx : a.eval x = .pointer (some ⟨g, i, none⟩) := by rfl) (p : Pick l (bx g u cs) f := by repeat (first | exact Pick.head | apply Pick.tail)) (hn : OneT P t := by exact (fun w => ⟨by first | (simp [go_sem]; done) | (simp [go_sem]; rfl), by first | (simp [go_sem]; done) | (simp [go_sem]; rfl)⟩)) (hco : (a.eval y).cells = #[v] := by rfl) (h1 : v.oneCell' = true := by rfl) (hi : i < cs.length := by (simp; done)) :
    (Oper.mk none (.store t x y) ty pos after gd).wp P a w K Q := wp_store1V M _ _ _ rfl g i hx p hn v hco h1 hi h
theorem zsC (M : Mem S w0 l w) (h : ∀ w', Fr (· ≠ g) w w' → Mem S w0 (f (bx g u (cs.set i v))) w' → K a w') (hx : a.eval x = .pointer (some ⟨g, i, none⟩) := by rfl) (p : Pick l (bx g u cs) f := by repeat (first | exact Pick.head | apply Pick.tail)) (hn : OneT P t := by exact (fun w => ⟨by first | (simp [go_sem]; done) | (simp [go_sem]; rfl), by first | (simp [go_sem]; done) | (simp [go_sem]; rfl)⟩)) (hco : CellsOf (a.eval y) [v] := by first | exact CellsOf.agg _ | exact CellsOf.int _ _ | exact CellsOf.str _ | exact CellsOf.bool _ | exact CellsOf.slice _ _ _ | exact CellsOf.pointer _) (h1 : v.oneCell' = true := by rfl) (hi : i < cs.length := by (simp; done)) :
    (Oper.mk none (.store t x y) ty pos after gd).wp P a w K Q := wp_store1F M _ _ _ rfl g i hx p hn v hco h1 hi h
theorem zsN (M : Mem S w0 l w) (h : ∀ w', Fr (· ≠ g) w w' → Mem S w0 (f (bx g u ws)) w' → K a w') (hx : a.eval x = .pointer (some ⟨g, 0, none⟩) := by rfl) (p : Pick l (bx g u cs) f := by repeat (first | exact Pick.head | apply Pick.tail)) (hn : RowT P t cs.length := by exact (fun w => ⟨by first | (simp [go_sem]; done) | (simp [go_sem]; rfl), by first | (simp [go_sem]; done) | (simp [go_sem]; rfl)⟩)) (hy : a.eval y = .agg ws.toArray := by rfl) (hl : ws.length = cs.length := by rfl) (h1 : ws.all (·.oneCell') = true := by rfl) :
    (Oper.mk none (.store t x y) ty pos after gd).wp P a w K Q := wp_storeNF M _ _ _ rfl g hx p hn ws hy hl h1 h
end
end Go.Proofs.YtkblkdnihppmnaaGreatDoor
/- How an argument's reading (the datum of the row) becomes a list in memory (Row). -/
namespace Go.Proofs.YtkblkdnihppmnaaGreatDoor
set_option linter.unusedSimpArgs false
set_option linter.unusedVariables false
open Go.RowKit

section
variable {H : Type}
theorem bulk_part {d : DataW H} {l : List (DataW H)} (h : d ∈ l) : Rows.uptoBulk d ≤ Rows.uptoBulkAll l := by
  induction l with
  | nil => cases h
  | cons x r ih =>
    simp only [Rows.uptoBulkAll]
    rcases List.mem_cons.1 h with rfl | h
    · omega
    · have := ih h; omega
theorem bulk_small {l : List (DataW H)} (h : Rows.uptoSmall H l = true) : Rows.uptoBulkAll l ≤ 1048576 := of_decide_eq_true h
end

section
variable {H : Type} {enc : TypeId × Value → H} {P : Program} {w : World} {base : Nat} {spare : Nat → Bool} {held : Bool}

/-- a slice of elements whose cells R tells -/
def RowR {α : Type} (R : α → List Value → Prop) (w : World) (lo hi sz : Nat) (A : Option Addr) (l : List α) : Prop :=
  ∃ prs : List (α × List Value), prs.map Prod.fst = l ∧ (∀ p ∈ prs, R p.1 p.2 ∧ p.2.length = sz) ∧ Row w lo hi sz A l.length (prs.flatMap (·.2))

/-- where the cells are told by a plain function -/
theorem RowR.plain {α : Type} {f : α → List Value} {w : World} {lo hi sz : Nat} {A : Option Addr} {l : List α} (h : RowR (fun y cs => cs = f y) w lo hi sz A l) : Row w lo hi sz A l.length (l.flatMap f) := by
  obtain ⟨prs, rfl, hp, hr⟩ := h
  have e : prs.flatMap (·.2) = (prs.map Prod.fst).flatMap f := by
    clear hr
    induction prs with
    | nil => rfl
    | cons p prs ih =>
      rw [List.flatMap_cons, List.map_cons, List.flatMap_cons, (hp p (by simp)).1, ih (fun q hq => hp q (by simp [hq]))]
  rwa [e] at hr

end

theorem read_str {H : Type} {enc : TypeId × Value → H} {P : Program} {w : World} {base : Nat} {spare : Nat → Bool} {held : Bool} {t : TypeId} {fuel : Nat} {cs : List Value} {x : DataW H × List MemPlace} (ht : P.underlying t = some .string)
    (h : DataW.trod enc P w base spare held fuel t cs = some x) : ∃ l : List UInt8, cs = [str l] ∧ l.length + 1 ≤ Rows.uptoBulk x.1 := by
  obtain ⟨s, rfl, rfl, _⟩ := DataW.trod_string ht h
  exact ⟨s.data.toList, by rw [str_data], by simp [Rows.uptoBulk]⟩
theorem read_i64 {H : Type} {enc : TypeId × Value → H} {P : Program} {w : World} {base : Nat} {spare : Nat → Bool} {held : Bool} {t : TypeId} {fuel : Nat} {cs : List Value} {x : DataW H × List MemPlace} (ht : P.underlying t = some (.int .i64))
    (h : DataW.trod enc P w base spare held fuel t cs = some x) : ∃ n : Int, cs = [.int .i64 n] ∧ -9223372036854775808 ≤ n ∧ n ≤ 9223372036854775807 := by
  obtain ⟨n, rfl, rfl, hw⟩ := DataW.trod_int ht h
  have hx : -9223372036854775808 ≤ n ∧ n ≤ 9223372036854775807 := by simpa [Lit.wf, IntKind.min, IntKind.max, IntKind.signed, IntKind.bits] using hw
  exact ⟨n, rfl, hx.1, hx.2⟩
end Go.Proofs.YtkblkdnihppmnaaGreatDoor
/- Structs of whole numbers alone, as an argument reads: their cells. No program in sight. -/
namespace Go.Proofs.YtkblkdnihppmnaaGreatDoor
set_option linter.unusedSimpArgs false
set_option linter.unusedVariables false
open Go.RowKit Go.Deep

end Go.Proofs.YtkblkdnihppmnaaGreatDoor
/- Structs of whole numbers alone, held against each other. No program in sight. -/
namespace Go.Proofs.YtkblkdnihppmnaaGreatDoor
set_option linter.unusedSimpArgs false
set_option linter.unusedVariables false
open Go.RowKit

end Go.Proofs.YtkblkdnihppmnaaGreatDoor
/- Structs of whole numbers alone as arguments: what they read as. No program in sight. -/
namespace Go.Proofs.YtkblkdnihppmnaaGreatDoor
set_option linter.unusedSimpArgs false
set_option linter.unusedVariables false
open Go.RowKit Go.Deep

end Go.Proofs.YtkblkdnihppmnaaGreatDoor
/- The fields of a struct that came in as an argument. -/
namespace Go.Proofs.YtkblkdnihppmnaaGreatDoor
set_option linter.unusedSimpArgs false
set_option linter.unusedVariables false
open Go.RowKit Go.Deep

section
variable {H : Type} {enc : TypeId × Value → H} {P : Program} {w : World} {base : Nat} {spare : Nat → Bool} {held : Bool} {t : TypeId} {fuel : Nat} {cs : List Value} {x : DataW H × List MemPlace}
/-- a field of a struct that came in -/
theorem fld {fs : Array Field} (ht : P.underlying t = some (.struct fs)) (h : DataW.trod enc P w base spare held fuel t cs = some x) (i off k : Nat) (hi : decide (i < fs.size) = true) (ho : (fs.getD i default).offset = off) (hk : P.cellsOf (fs.getD i default).type = k) :
    ∃ y n, DataW.trod enc P w base spare held n (fs.getD i default).type ((cs.drop off).take k) = some y ∧ Rows.uptoBulk y.1 ≤ Rows.uptoBulk x.1 := by
  obtain ⟨xs, n, _, rfl, hl, hlen, hf⟩ := DataW.trod_struct ht h
  have hi' : i < fs.size := by simpa using hi
  have he : fs.getD i default = fs[i] := by simp [Array.getD, hi']
  have h1 := hf i fs[i] (Array.getElem?_eq_getElem hi')
  rw [he] at ho hk ⊢
  subst ho hk
  have hx : i < xs.length := by omega
  refine ⟨xs[i], n, by rw [h1, List.getElem?_eq_getElem hx], ?_⟩
  have := bulk_part (d := xs[i].1) (l := xs.map (·.1)) (List.mem_map.2 ⟨xs[i], List.getElem_mem hx, rfl⟩)
  simp only [Rows.uptoBulk]
  omega
theorem fld_len {fs : Array Field} (ht : P.underlying t = some (.struct fs)) (h : DataW.trod enc P w base spare held fuel t cs = some x) : cs.length = P.cellsOf t := by
  obtain ⟨xs, n, _, rfl, hl, hlen, hf⟩ := DataW.trod_struct ht h
  exact hl
theorem fld_one_of {a v : Value} {l : List Value} {off : Nat} (h : (l.drop off).take 1 = [v]) (ha : l[off]? = some a) : a = v := by
  have h1 : l[off]? = some v := by
    have := congrArg (fun x => x[0]?) h
    simpa using this
  rw [ha] at h1
  exact Option.some.inj h1
theorem fld_int {fs : Array Field} (ht : P.underlying t = some (.struct fs)) (h : DataW.trod enc P w base spare held fuel t cs = some x) (i off : Nat) (hi : decide (i < fs.size) = true) (ho : (fs.getD i default).offset = off) (hk : P.cellsOf (fs.getD i default).type = 1) (hu : P.underlying (fs.getD i default).type = some (.int .i64)) {a : Value} (ha : cs[off]? = some a) : ∃ n : Int, a = .int .i64 n := by
  obtain ⟨y, n, h1, -⟩ := fld ht h i off 1 hi ho hk
  obtain ⟨v, h2, -⟩ := read_i64 hu h1
  exact ⟨v, fld_one_of h2 ha⟩
theorem fld_str {fs : Array Field} (ht : P.underlying t = some (.struct fs)) (h : DataW.trod enc P w base spare held fuel t cs = some x) (i off : Nat) (hi : decide (i < fs.size) = true) (ho : (fs.getD i default).offset = off) (hk : P.cellsOf (fs.getD i default).type = 1) (hu : P.underlying (fs.getD i default).type = some .string) {a : Value} (ha : cs[off]? = some a) : ∃ l : List UInt8, a = str l := by
  obtain ⟨y, n, h1, -⟩ := fld ht h i off 1 hi ho hk
  obtain ⟨v, h2, -⟩ := read_str hu h1
  exact ⟨v, fld_one_of h2 ha⟩
theorem fld_ints {fs : Array Field} {n : Nat} {e : TypeId} (ht : P.underlying t = some (.struct fs)) (h : DataW.trod enc P w base spare held fuel t cs = some x) (i off : Nat) (hi : decide (i < fs.size) = true) (ho : (fs.getD i default).offset = off) (hk : P.cellsOf (fs.getD i default).type = n) (hu : P.underlying (fs.getD i default).type = some (.array n e)) (he : P.underlying e = some (.int .i64)) (hc : P.cellsOf e = 1) (j : Nat) (hj : j < n) {a : Value} (ha : cs[off + j]? = some a) : ∃ v : Int, a = .int .i64 v := by
  obtain ⟨y, k, h1, -⟩ := fld ht h i off n hi ho hk
  obtain ⟨xs, m, -, -, -, hlen, hf⟩ := DataW.trod_array hu h1
  have h2 := hf j hj
  rw [hc, Nat.mul_one, List.getElem?_eq_getElem (by omega)] at h2
  obtain ⟨v, h3, -⟩ := read_i64 he h2
  refine ⟨v, fld_one_of (off := j) h3 ?_⟩
  rw [List.getElem?_take_of_lt hj, List.getElem?_drop]
  exact ha
end
end Go.Proofs.YtkblkdnihppmnaaGreatDoor
/- Filters (layer 21): what is read goes on; a test, case by case. No program in sight. -/
namespace Go.Proofs.YtkblkdnihppmnaaGreatDoor.Filt
set_option linter.unusedSimpArgs false
set_option linter.unusedVariables false

section
variable {s : List UInt8}
theorem lexCons_pos {c : UInt8} {r : List UInt8} (h : (lexCons c r).1 ≠ .bad) : 0 < (lexCons c r).2 := by
  unfold lexCons at h ⊢
  split
  · simp
  · split
    · simp
    · split
      · split
        · simp
        · rename_i h1 h2 h3 h4
          exact (h (by rw [if_neg h1, if_neg h2, if_pos h3, if_neg h4])).elim
      · split
        · simp
        · split
          · split
            · simp
            · split <;> simp
          · simp
theorem at_ge (p : Nat) : p ≤ (lex s p).at_ := Nat.le_add_right _ _
theorem at_le_next (p : Nat) : (lex s p).at_ ≤ (lex s p).next := Nat.le_add_right _ _
theorem next_ge (p : Nat) : p ≤ (lex s p).next := Nat.le_trans (at_ge p) (at_le_next p)
theorem next_gt {p : Nat} (hb : (lex s p).kind ≠ .bad) (he : (lex s p).kind ≠ .ended) : p < (lex s p).next := by
  have h1 : startOf s p < (lex s p).next := by
    unfold lex at hb he ⊢
    dsimp only at hb he ⊢
    cases hd : s.drop (startOf s p) with
    | nil => rw [hd] at he; exact (he rfl).elim
    | cons c r =>
      rw [hd] at hb
      have := lexCons_pos (c := c) (r := r) hb
      show startOf s p < startOf s p + (lexCons c r).2
      omega
  exact Nat.lt_of_le_of_lt (at_ge (s := s) p) h1
theorem word_gt {p : Nat} {w : List UInt8} (h : isWord s p w) : p < (lex s p).next := by
  rcases h.1 with h | h
  · exact next_gt (by rw [h]; simp) (by rw [h]; simp)
  · exact next_gt (by rw [h]; simp) (by rw [h]; simp)
theorem adv_next {p q : Nat} (h : (lang s).adv true p = .ok q) : q = (lex s p).next := (adv_ok h).1
theorem test_gt {p q : Nat} {n : Nd} (h : (lang s).test true p = .ok n q) : p < q := by
  have h : testG (advG (isBad s) (nextOf s) (atOf s)) (atOf s) (isField s) (isAsk s) (fun p p1 p2 => testVal s (fieldOf s p) (askOf s p1) p2) true p = .ok n q := h
  unfold testG at h
  have hadv : ∀ {a b : Nat}, advG (isBad s) (nextOf s) (atOf s) true a = .ok b → b = (lex s a).next := fun h => adv_next h
  split at h
  · rename_i h1
    split at h
    · cases h
    · rename_i p1 e1
      split at h
      · split at h
        · cases h
        · rename_i p2 e2
          split at h
          · cases h
          · split at h
            · cases h
            · rename_i p3 e3
              cases h
              have a1 := hadv e1
              have a2 := hadv e2
              have a3 := hadv e3
              have b1 := next_gt (s := s) (p := p) (by rw [h1.1]; simp) (by rw [h1.1]; simp)
              have b2 := next_ge (s := s) p1
              have b3 := next_ge (s := s) p2
              omega
      · cases h
  · cases h
def NT.step : NT → Nat
  | .one | .all | .any => 1
  | _ => 0
theorem reads_gt {nt : NT} {d p : Nat} {r : Res} (h : Reads (lang s) true nt d p r) : ∀ {n q}, r = .ok n q → p + nt.step ≤ q := by
  induction h with
  | test h1 h2 => intro n q e; exact test_gt e
  | notOk h hd ha hr ih =>
    intro n q e
    cases e
    have := ih rfl
    have b := word_gt h
    have a := adv_next ha
    simp only [NT.step] at *
    omega
  | openOk h0 h hd ha hr hc hb ih =>
    intro n q e
    cases e
    have := ih rfl
    have b := word_gt h
    have a := adv_next ha
    have a3 := adv_next hb
    have b3 := word_gt hc
    simp only [NT.step] at *
    omega
  | allOk h hr ih1 ih2 =>
    intro n q e
    have i1 := ih1 rfl
    have i2 := ih2 e
    simp only [NT.step] at *
    omega
  | allEnd h => intro n q e; cases e; exact Nat.le_refl _
  | allMore h ha hr hm ih1 ih2 =>
    intro n q e
    have i1 := ih1 rfl
    have i2 := ih2 e
    have b := word_gt h
    have a := adv_next ha
    simp only [NT.step] at *
    omega
  | anyOk h hr ih1 ih2 =>
    intro n q e
    have i1 := ih1 rfl
    have i2 := ih2 e
    simp only [NT.step] at *
    omega
  | anyEnd h => intro n q e; cases e; exact Nat.le_refl _
  | anyMore h ha hr hm ih1 ih2 =>
    intro n q e
    have i1 := ih1 rfl
    have i2 := ih2 e
    have b := word_gt h
    have a := adv_next ha
    simp only [NT.step] at *
    omega
  | _ => intro n q e; cases e
end
end Go.Proofs.YtkblkdnihppmnaaGreatDoor.Filt
