/- Parts of this work, one behind the other: Base, Orph, HexN, Region, Fr, Mem, Base2, App, Mem2, Mem3, Mem4, Mem5, Mem6, Mem7, Mem8, Mem9, Region2, Mem10, Mem11, HexF, HexF2, HexG. -/
import Derived.Below
import Derived.Laws.OwnMore
import Derived.Laws.BytesString
import Derived.Laws.Cells
import Derived.Laws.Rows
import Derived.Laws.StructEq
import Derived.Deep.Draws
import Derived.Lib.Hide
import Derived.WalkKit
import Derived.Lib.SlicesCompact
import Derived.OrdersHeld
import Derived.Tactics
import Derived.Tactics2
import Derived.Deep.MidRow
import Derived.Laws.CopyOwn
import Derived.Maps.AppendAt
import Derived.Lib.AppendZeros
import Derived.Laws.AppendOwnNone
import Derived.StillTailTactics
import Derived.LoopN
import Derived.Test.YtmmaddmlfofgbaaDoorProg
import Derived.Laws.BitsLemmas
import Derived.WalkMore
import Derived.IntWalk
import Derived.Test.YtmmaddmlfofgbaaDoorShelfN
/- Base of this seat's proofs: how slices, boxes and strings lie in memory, and how that is kept. No program in sight. -/
namespace Go.Proofs.YtmmaddmlfofgbaaDoor
set_option linter.unusedSimpArgs false
set_option linter.unusedVariables false
open Go.RowKit

/-- 2^64, behind a name -/
def M64 : Nat := 18446744073709551616

/-- a byte as a cell -/
def byteV (b : UInt8) : Value := .int .u8 (b.toNat : Int)

/-- a text as a value -/
abbrev str (l : List UInt8) : Value := .string ⟨l.toArray⟩

theorem str_data (s : ByteArray) : Value.string s = str s.data.toList := rfl

/-- everything that lay below the world's size is as it was -/
abbrev Ext (w w' : World) : Prop := Below w.heap.size w w'

theorem Ext.trans' {a b c : World} (h : Ext a b) (k : Ext b c) : Ext a c := Below.trans h (k.mono h.size)
theorem _root_.Go.RowKit.Below.trans' {a b c : World} (h : Ext a b) (k : Ext b c) : Ext a c := Ext.trans' h k
theorem Ext.from {B : Nat} {a b c : World} (h : Below B a b) (hB : B ≤ b.heap.size) (k : Ext b c) : Below B a c := Below.trans h (k.mono hB)

theorem Ext.al (w : World) (o : Obj) : Ext w (w.alloc o) := (Below.refl _ _).alloc (Nat.le_refl _) o
theorem Ext.dr (w : World) : Ext w w.drew := (Below.refl _ _).drew
theorem below_drewN' {B : Nat} (w : World) (n : Nat) : Below B w (w.drewN n) := ⟨rfl, rfl, rfl, Nat.le_refl _, fun _ _ => rfl⟩
theorem Ext.below {B : Nat} {a b : World} (h : Ext a b) (hB : B ≤ a.heap.size) : Below B a b := h.mono hB

/-- the cells of a slice value, flat: `xs` are the cells of its `n` elements, `sz` cells each; they lie in a block from `lo` on, below `hi` -/
structure Row (w : World) (lo hi sz : Nat) (A : Option Addr) (n : Nat) (xs : List Value) : Prop where
  len : xs.length = n * sz
  mem : 0 < n → ∃ b off, A = some ⟨b, off, none⟩ ∧ lo ≤ b ∧ b < hi ∧ ∀ j u, xs[j]? = some u → w.cell? ⟨b, off + j, none⟩ = some u

namespace Row
variable {w w' : World} {lo hi lo' hi' sz n : Nat} {A : Option Addr} {xs : List Value}
theorem nil_ : Row w lo hi sz none 0 [] := ⟨by simp, fun h => absurd h (by omega)⟩
theorem keep (h : Row w lo hi sz A n xs) (hk : ∀ b, lo ≤ b → b < hi → w'.heap[b]? = w.heap[b]?) : Row w' lo hi sz A n xs :=
  ⟨h.len, fun hn => by
    obtain ⟨b, off, e, h1, h2, hc⟩ := h.mem hn
    exact ⟨b, off, e, h1, h2, fun j u hu => (World.cell?_of_block (w := w) (a := ⟨b, off + j, none⟩) (hk b h1 h2)).trans (hc j u hu)⟩⟩
theorem wide (h : Row w lo hi sz A n xs) (h1 : lo' ≤ lo) (h2 : hi ≤ hi') : Row w lo' hi' sz A n xs :=
  ⟨h.len, fun hn => by
    obtain ⟨b, off, e, a1, a2, hc⟩ := h.mem hn
    exact ⟨b, off, e, by omega, by omega, hc⟩⟩
theorem below {B : Nat} (h : Row w lo hi sz A n xs) (hb : Below B w w') (hB : hi ≤ B) : Row w' lo hi sz A n xs := h.keep fun b _ h2 => hb.block b (by omega)
theorem ext (h : Row w lo hi sz A n xs) (hb : Ext w w') (hB : hi ≤ w.heap.size) : Row w' lo hi sz A n xs := h.below hb hB
theorem alloc (h : Row w lo hi sz A n xs) (hB : hi ≤ w.heap.size) (o : Obj) : Row (w.alloc o) lo hi sz A n xs := h.keep fun b _ h2 => Below.heap_alloc w o b (by omega)
theorem drew (h : Row w lo hi sz A n xs) : Row w.drew lo hi sz A n xs := h.keep fun _ _ _ => rfl
theorem drewN (h : Row w lo hi sz A n xs) (k : Nat) : Row (w.drewN k) lo hi sz A n xs := h.keep fun _ _ _ => rfl
theorem setCell (h : Row w lo hi sz A n xs) {p : Addr} (hp : p.block < lo ∨ hi ≤ p.block) (u : Value) : Row (w.setCell p u) lo hi sz A n xs :=
  h.keep fun b h1 h2 => Below.heap_setCell w p u b (by omega)
theorem grown (h : Row w lo hi sz A n xs) {row : Option Nat} (hg : w.grownBy w' row) (hB : hi ≤ w.heap.size) (hr : ∀ g, row = some g → g < lo ∨ hi ≤ g) : Row w' lo hi sz A n xs :=
  h.keep fun b h1 h2 => hg.block b (by omega) (fun e => by have := hr b e.symm; omega)
/-- what an owned row holds -/
theorem of_own {base : Nat} {e : TypeId} {c : Nat} (h : w.ownsRow base e sz (.slice A n c) n xs) : Row w base w.heap.size sz A n xs := by
  refine ⟨h.1, fun hn => ?_⟩
  rcases h.2 with ⟨_, h0⟩ | ⟨g, cap, cur, hv, hb, hg, _, _, _, _⟩
  · omega
  · have hA : A = some ⟨g, 0, none⟩ := by injection hv
    subst hA
    refine ⟨g, 0, rfl, hb, (Array.getElem?_eq_some_iff.1 hg).1, fun j u hu => ?_⟩
    have := h.cells (g := g) rfl j u hu
    rwa [show ((⟨g, 0, none⟩ : Addr).add j) = ⟨g, 0 + j, none⟩ by unfold Addr.add; split <;> simp_all] at this
end Row

/-- a slice value of an owned row has the owned form -/
theorem own_form {w : World} {base : Nat} {e : TypeId} {sz n : Nat} {v : Value} {xs : List Value} (h : w.ownsRow base e sz v n xs) : ∃ A c, v = .slice A n c := by
  rcases h.2 with ⟨rfl, rfl⟩ | ⟨g, cap, cur, rfl, _⟩
  · exact ⟨none, 0, rfl⟩
  · exact ⟨_, cap, rfl⟩

/-- an element of a slice whose elements are written as cells by a plain function -/
theorem getElem?_flatMap {α β : Type} {f : α → List β} {sz : Nat} (hf : ∀ x, (f x).length = sz) : ∀ (l : List α) (k j : Nat), j < sz → (l.flatMap f)[k * sz + j]? = (l[k]?).bind fun x => (f x)[j]?
  | [], k, j, _ => by simp
  | x :: l, 0, j, hj => by
    simp only [List.flatMap_cons, Nat.zero_mul, Nat.zero_add]
    rw [List.getElem?_append_left (by rw [hf]; exact hj)]
    simp
  | x :: l, k + 1, j, hj => by
    simp only [List.flatMap_cons]
    rw [List.getElem?_append_right (by rw [hf, Nat.succ_mul]; omega), hf, show (k + 1) * sz + j - sz = k * sz + j by rw [Nat.succ_mul]; omega, getElem?_flatMap hf l k j hj]
    simp

theorem length_flatMap' {α β : Type} {f : α → List β} {sz : Nat} (hf : ∀ x, (f x).length = sz) (l : List α) : (l.flatMap f).length = l.length * sz := by
  induction l with
  | nil => simp
  | cons x l ih => rw [List.flatMap_cons, List.length_append, hf, ih, List.length_cons, Nat.succ_mul, Nat.add_comm]

theorem flatMap_snoc {α β : Type} (f : α → List β) (l : List α) (x : α) : (l ++ [x]).flatMap f = l.flatMap f ++ f x := by simp

/-- the cells of element k of a slice of such elements -/
theorem Row.elem {α : Type} {f : α → List Value} {w : World} {lo hi sz : Nat} {A : Option Addr} {n : Nat} {l : List α} (h : Row w lo hi sz A n (l.flatMap f)) (hf : ∀ x, (f x).length = sz) (hn : n = l.length) {k : Nat} {x : α}
    (hk : l[k]? = some x) : ∃ b off, A = some ⟨b, off, none⟩ ∧ lo ≤ b ∧ b < hi ∧ ∀ j u, (f x)[j]? = some u → w.cell? ⟨b, off + k * sz + j, none⟩ = some u := by
  have hkl : k < l.length := (List.getElem?_eq_some_iff.1 hk).1
  obtain ⟨b, off, e, h1, h2, hc⟩ := h.mem (by omega)
  refine ⟨b, off, e, h1, h2, fun j u hu => ?_⟩
  have hj : j < sz := by rw [← hf x]; exact (List.getElem?_eq_some_iff.1 hu).1
  have := hc (k * sz + j) u (by rw [getElem?_flatMap hf l k j hj, hk]; exact hu)
  rwa [← Nat.add_assoc] at this

/-- block g holds just these cells, none of them frozen -/
def Box (w : World) (g : Nat) (t : TypeId) (cs : Array Value) : Prop := w.heap[g]? = some (.cells cs t (0, 0))
namespace Box
variable {w w' : World} {g : Nat} {t : TypeId} {cs : Array Value}
theorem lt (h : Box w g t cs) : g < w.heap.size := (Array.getElem?_eq_some_iff.1 h).1
theorem cell (h : Box w g t cs) (i : Nat) : w.cell? ⟨g, i, none⟩ = cs[i]? := cell_of_row w g i cs t (0, 0) h
theorem frozen (h : Box w g t cs) (i : Nat) : w.frozen? ⟨g, i, none⟩ = false := by
  unfold Box at h
  simp [World.frozen?, h]
theorem new (w : World) (t : TypeId) (cs : Array Value) : Box (w.alloc (.cells cs t)) w.heap.size t cs := heap_alloc_new w _
theorem new_at (w : World) (t : TypeId) (cs : Array Value) (b : Nat) (hb : b = w.heap.size) : Box (w.alloc (.cells cs t)) b t cs := by subst hb; exact new w t cs
theorem keep (h : Box w g t cs) (hk : w'.heap[g]? = w.heap[g]?) : Box w' g t cs := hk.trans h
theorem alloc (h : Box w g t cs) (o : Obj) : Box (w.alloc o) g t cs := h.keep (Below.heap_alloc w o g h.lt)
theorem below {B : Nat} (h : Box w g t cs) (hb : Below B w w') (hg : g < B) : Box w' g t cs := h.keep (hb.block g hg)
theorem ext (h : Box w g t cs) (hb : Ext w w') : Box w' g t cs := h.below hb h.lt
theorem grown {row : Option Nat} (h : Box w g t cs) (hb : w.grownBy w' row) (hg : some g ≠ row) : Box w' g t cs := h.keep (hb.block g h.lt hg)
theorem put (h : Box w g t cs) (i : Nat) (u : Value) : Box (w.setCell ⟨g, i, none⟩ u) g t (cs.setIfInBounds i u) := by
  unfold Box at h ⊢
  simp [World.setCell, Array.getElem?_modify, h]
theorem far (h : Box w g t cs) {p : Addr} (hp : g ≠ p.block) (u : Value) : Box (w.setCell p u) g t cs := h.keep (Below.heap_setCell w p u g hp)
end Box

theorem foldl_push_bytes : ∀ (l : List UInt8) (s : List UInt8), (l.map fun b => (b.toNat : Int)).foldl (fun (r : ByteArray) n => r.push (UInt8.ofNat n.toNat)) ⟨s.toArray⟩ = ⟨(s ++ l).toArray⟩
  | [], s => by simp
  | b :: l, s => by
    simp only [List.map_cons, List.foldl_cons]
    have e : (ByteArray.push ⟨s.toArray⟩ (UInt8.ofNat ((b.toNat : Int).toNat))) = ⟨(s ++ [b]).toArray⟩ := by
      simp [ByteArray.push]
    rw [e, foldl_push_bytes l (s ++ [b])]
    simp

/-- string(b) of a slice of bytes -/
theorem run_string_row {P : Program} (w : World) (src dst e : TypeId) (hs : P.underlying src = some (.slice e)) (he : P.underlying e = some (.int .u8)) (hd : P.underlying dst = some .string)
    {lo hi : Nat} {A : Option Addr} {n : Nat} {l : List UInt8} (h : Row w lo hi 1 A n (l.map byteV)) (c : Nat) : (convert src dst (.slice A n c)).run P w = .ok (str l) w := by
  rw [run_convert_bytes_string w src dst e A n c hs he hd]
  have hl : l.length = n := by simpa using h.len
  rcases Nat.eq_zero_or_pos n with h0 | h0
  · subst h0
    have hl0 : l = [] := List.eq_nil_of_length_eq_zero hl
    subst hl0
    cases A with
    | none => simp [Conv.bytesToString]; rfl
    | some a =>
      have := run_bytesToString (P := P) w a 0 c [] (by simpa using run_loadCells_list (P := P) w a [] (by simp))
      rw [this]; rfl
  · obtain ⟨b, off, rfl, _, _, hc⟩ := h.mem h0
    have h1 : (loadCells ⟨b, off, none⟩ n).run P w = .ok ((l.map fun b => (b.toNat : Int)).map (Value.int .u8)).toArray w := by
      have := run_loadCells_list (P := P) w ⟨b, off, none⟩ (l.map byteV) (fun j v hv => by
        rw [show ((⟨b, off, none⟩ : Addr).add j) = ⟨b, off + j, none⟩ by unfold Addr.add; split <;> simp_all]
        exact hc j v hv)
      rw [List.length_map, hl] at this
      rw [this]
      simp [byteV, Function.comp_def]
    rw [run_bytesToString (P := P) w _ n c _ h1]
    have := foldl_push_bytes l []
    simp only [List.nil_append] at this
    show Result.ok (Value.string (List.foldl (fun (r : ByteArray) (n : Int) => r.push (UInt8.ofNat n.toNat)) (⟨#[]⟩ : ByteArray) _)) w = _
    rw [this]

/-- bytes as cells, one each -/
def byteC (b : UInt8) : List Value := [byteV b]
theorem flatMap_byteC (l : List UInt8) : l.flatMap byteC = l.map byteV := by
  induction l with
  | nil => rfl
  | cons b l ih => simp [byteC, ih]

/-- what the laws on append and make ask of a slice's element type -/
structure ElemOf (P : Program) (t e : TypeId) (sz bytes : Nat) : Prop where
  under : P.underlying t = some (.slice e)
  info : ∃ i z, P.info? e = some i ∧ i.zero = some z ∧ i.size = sz ∧ i.bytes = bytes ∧ z.cells.size = sz
  pos : 0 < sz

theorem elemOf_mk {P : Program} {t e : TypeId} {z : Value} {sz bytes : Nat} (ht : P.underlying t = some (.slice e)) (h : (P.info? e).map (fun i => (i.zero, i.size, i.bytes)) = some (some z, sz, bytes)) (hz : z.cells.size = sz) (hp : 0 < sz) : ElemOf P t e sz bytes := by
  obtain ⟨i, h1, h2, h3, h4⟩ := info_parts h
  exact ⟨ht, ⟨i, z, h1, h2, h3, h4, hz⟩, hp⟩

/-- an owned slice: the slice value (A, length, c) holds the elements l, written as cells by f, in a block of the call's own, from `base` on -/
def Own {α : Type} (w : World) (base : Nat) (e : TypeId) (f : α → List Value) (sz : Nat) (A : Option Addr) (c : Nat) (l : List α) : Prop :=
  w.ownsRow base e sz (.slice A l.length c) l.length (l.flatMap f)

def ownBlk : Option Addr → Option Nat | some a => some a.block | none => none

namespace Own
variable {α : Type} {w w' : World} {base : Nat} {e : TypeId} {f : α → List Value} {sz : Nat} {A : Option Addr} {c : Nat} {l : List α}
theorem nil_ : Own w base e f sz none 0 [] := World.ownsRow_nil w base e sz
theorem row (h : Own w base e f sz A c l) : Row w base w.heap.size sz A l.length (l.flatMap f) := Row.of_own h
theorem blk (h : Own w base e f sz A c l) : ∀ g, ownBlk A = some g → base ≤ g ∧ g < w.heap.size := fun g hg => World.ownsRow.lt h g (by cases A with | none => cases hg | some a => exact hg)
theorem keep (h : Own w base e f sz A c l) (hk : ∀ b, base ≤ b → b < w.heap.size → w'.heap[b]? = w.heap[b]?) : Own w' base e f sz A c l := by
  obtain ⟨h1, h2⟩ := h
  refine ⟨h1, ?_⟩
  rcases h2 with h2 | ⟨g, cap, cur, hv, hg, hh, r⟩
  · exact .inl h2
  · exact .inr ⟨g, cap, cur, hv, hg, (hk g hg (Array.getElem?_eq_some_iff.1 hh).1).trans hh, r⟩
theorem ext (h : Own w base e f sz A c l) (hb : Ext w w') : Own w' base e f sz A c l := h.keep fun b _ h2 => hb.block b h2
theorem alloc (h : Own w base e f sz A c l) (o : Obj) : Own (w.alloc o) base e f sz A c l := h.keep fun b _ h2 => Below.heap_alloc w o b h2
theorem grown (h : Own w base e f sz A c l) {row : Option Nat} (hg : w.grownBy w' row) (hne : ∀ g, row = some g → ownBlk A ≠ some g) : Own w' base e f sz A c l := by
  refine World.ownsRow.kept h hg ?_
  cases A with
  | none => exact .inl rfl
  | some a =>
    refine .inr fun e => ?_
    exact hne a.block (by rw [← e]; rfl) rfl
theorem setCell (h : Own w base e f sz A c l) {p : Addr} (hp : ownBlk A ≠ some p.block) (u : Value) : Own (w.setCell p u) base e f sz A c l :=
  h.grown (row := some p.block) ⟨rfl, rfl, rfl, by simp [World.setCell], fun k _ hk => Below.heap_setCell w p u k (fun e => hk (by rw [e]))⟩ (by intro g hg; cases hg; exact hp)
end Own

/-- below its base nothing turns when an owned slice is pushed onto -/
theorem Own.below_push {α : Type} {w0 w w1 : World} {B base : Nat} {e : TypeId} {f : α → List Value} {sz : Nat} {A : Option Addr} {c : Nat} {l : List α} {o : Obj} (h : Own w base e f sz A c l) (hb : Below B w0 w) (hBb : B ≤ base) (hB : B ≤ w.heap.size)
    (hg : (w.alloc o).grownBy w1 (ownBlk A)) : Below B w0 w1 :=
  (hb.alloc hB o).grown hg (by simp; omega) fun g e => by have := h.blk g e; omega

/-- string(b) of an owned slice of bytes -/
theorem Own.string {P : Program} {w : World} {src dst e : TypeId} (hs : P.underlying src = some (.slice e)) (he : P.underlying e = some (.int .u8)) (hd : P.underlying dst = some .string)
    {base : Nat} {A : Option Addr} {c n : Nat} {l : List UInt8} (h : Own w base e byteC 1 A c l) (hn : n = l.length) : (convert src dst (.slice A n c)).run P w = .ok (str l) w := by
  subst hn
  exact run_string_row w src dst e hs he hd (by rw [← flatMap_byteC]; exact h.row) c

/-- the bytes that cells hold -/
def bytesIn (cs : List Value) : List UInt8 := cs.map fun | .int _ n => UInt8.ofNat n.toNat | _ => 0
theorem foldl_push_ints : ∀ (ns : List Int) (s : List UInt8), ns.foldl (fun (r : ByteArray) n => r.push (UInt8.ofNat n.toNat)) ⟨s.toArray⟩ = ⟨(s ++ ns.map fun n => UInt8.ofNat n.toNat).toArray⟩
  | [], s => by simp
  | b :: l, s => by
    simp only [List.map_cons, List.foldl_cons]
    have e : (ByteArray.push ⟨s.toArray⟩ (UInt8.ofNat (b.toNat))) = ⟨(s ++ [UInt8.ofNat b.toNat]).toArray⟩ := by
      simp [ByteArray.push]
    rw [e, foldl_push_ints l]
    simp
theorem bytes_ints {cs : List Value} (hcs : ∀ v ∈ cs, ∃ x, v = .int .u8 x) : ∃ ns : List Int, cs = ns.map (Value.int .u8) := by
  induction cs with
  | nil => exact ⟨[], rfl⟩
  | cons v cs ih =>
    obtain ⟨x, rfl⟩ := hcs v (by simp)
    obtain ⟨ns, rfl⟩ := ih (fun u hu => hcs u (by simp [hu]))
    exact ⟨x :: ns, rfl⟩
/-- .. that was laid earlier -/
theorem Box.string {P : Program} {src dst e : TypeId} (hs : P.underlying src = some (.slice e)) (he : P.underlying e = some (.int .u8)) (hd : P.underlying dst = some .string)
    {w : World} {cs : List Value} {b : Nat} {e' : TypeId} (h : Box w b e' cs.toArray) (hcs : ∀ v ∈ cs, ∃ x, v = .int .u8 x) (n c : Nat) (hn : n = cs.length) :
    (convert src dst (.slice (some ⟨b, 0, none⟩) n c)).run P w = .ok (str (bytesIn cs)) w := by
  rw [run_convert_bytes_string _ src dst e _ n c hs he hd]
  obtain ⟨ns, rfl⟩ := bytes_ints hcs
  have h1 := run_loadCells_list (P := P) w ⟨b, 0, none⟩ (ns.map (Value.int .u8)) (fun j v hv => by
    rw [show ((⟨b, 0, none⟩ : Addr).add j) = ⟨b, j, none⟩ by unfold Addr.add; split <;> simp_all]
    rw [h.cell]
    simpa using hv)
  rw [List.length_map] at h1
  rw [hn, List.length_map, run_bytesToString (P := P) _ _ _ c ns h1]
  have := foldl_push_ints ns []
  simp only [List.nil_append] at this
  show Result.ok (Value.string (List.foldl (fun (r : ByteArray) (n : Int) => r.push (UInt8.ofNat n.toNat)) (⟨#[]⟩ : ByteArray) _)) _ = _
  rw [this]
  simp [bytesIn, Function.comp_def]

theorem cells_new (w : World) (cs : List Value) (t : TypeId) : ∀ j u, cs[j]? = some u → (w.alloc (.cells cs.toArray t)).cell? ((⟨w.heap.size, 0, none⟩ : Addr).add j) = some u := by
  intro j u hu
  rw [show ((⟨w.heap.size, 0, none⟩ : Addr).add j) = ⟨w.heap.size, j, none⟩ by unfold Addr.add; split <;> simp_all]
  rw [Box.cell (Box.new w t cs.toArray)]
  simpa using hu

/-- `v = append(v, x)`: one element, laid in a block of its own just before -/
theorem wpList_push {P : Program} {ops : Array Oper} {rest : List Oper} {o : Oper} {a : Act} {Q : Exit → Act → World → Prop} {w : World} {t e : TypeId} {sz bytes : Nat} (E : ElemOf P t e sz bytes) (hgd : o.guard = none) (s x : Operand)
    (ho : o.op = .call { callee := .builtin .append, args := #[s, x], argTypes := #[t, t] })
    {α : Type} {f : α → List Value} {base : Nat} {A : Option Addr} {c n : Nat} {l : List α} (y : α) (hn : n = l.length) (hown : Own w base e f sz A c l) (hs : a.eval s = .slice A n c)
    (hx : a.eval x = .slice (some ⟨w.heap.size, 0, none⟩) 1 1) {cs : List Value} (hcs : cs = f y) (hl : (f y).length = sz) (h1 : ∀ u ∈ f y, u.oneCell' = true)
    (hsmall : (l.length + 1) * bytes ≤ 140737488355328) (hlen : l.length + 1 ≤ 140737488355328) (hbase : base ≤ w.heap.size)
    (h : ∀ A' c' w', Own w' base e f sz A' c' (l ++ [y]) → (w.alloc (.cells cs.toArray e)).grownBy w' (ownBlk A) → wpList P ops Q rest (a.put o.dst (.slice A' (l.length + 1) c')) w') :
    wpList P ops Q (o :: rest) a (w.alloc (.cells cs.toArray e)) := by
  subst hn
  subst hcs
  obtain ⟨i, z, hi, hz, hsz, hby, hzs⟩ := E.info
  refine wpList_append_own _ hgd s x t ho base e i z sz bytes E.under hi hz hsz hby hzs E.pos (.slice A l.length c) l.length (l.flatMap f) hs (World.ownsRow.alloc hown _)
    ⟨w.heap.size, 0, none⟩ 1 1 (f y) hx (by rw [hl, Nat.one_mul]) (cells_new w (f y) e) h1 (by unfold maxLen; omega) hsmall (by simp; omega) ?_
  intro v' w' hown' hg _
  obtain ⟨A', c', rfl⟩ := own_form hown'
  refine h A' c' w' ?_ ?_
  · unfold Own
    rw [flatMap_snoc, show (l ++ [y]).length = l.length + 1 by simp]
    exact hown'
  · have : Value.ownBlock (.slice A l.length c) = ownBlk A := by cases A <;> rfl
    rw [← this]; exact hg

end Go.Proofs.YtmmaddmlfofgbaaDoor
/- Orphans (layer 10): sorted and bare of doubles, or put in one by one: the same list. No program in sight. -/
namespace Go.Proofs.YtmmaddmlfofgbaaDoor.Orph
set_option linter.unusedSimpArgs false
set_option linter.unusedVariables false
open Go.Lib

abbrev T := List UInt8
/-- strictly rising -/
abbrev Up (l : List T) : Prop := l.Pairwise (· < ·)
theorem lt_trans' {a b c : T} (h : a < b) (k : b < c) : a < c := List.lt_trans h k
theorem lt_irrefl' (a : T) : ¬ a < a := List.lt_irrefl a
theorem lt_tri (a b : T) : a < b ∨ a = b ∨ b < a := by
  by_cases h : a < b
  · exact .inl h
  · by_cases k : b < a
    · exact .inr (.inr k)
    · exact .inr (.inl (List.le_antisymm (List.not_lt.1 k) (List.not_lt.1 h)))
theorem lt_of_le_ne {a b : T} (h : a ≤ b) (k : a ≠ b) : a < b := by
  rcases lt_tri a b with h1 | h1 | h1
  · exact h1
  · exact absurd h1 k
  · exact absurd h1 (List.not_lt.2 h)
/-- strictly rising lists of the same members -/
theorem up_ext : ∀ {a b : List T}, Up a → Up b → (∀ x, x ∈ a ↔ x ∈ b) → a = b
  | [], [], _, _, _ => rfl
  | [], y :: b, _, _, h => by have := (h y).2 (List.mem_cons_self ..); cases this
  | x :: a, [], _, _, h => by have := (h x).1 (List.mem_cons_self ..); cases this
  | x :: a, y :: b, ha, hb, h => by
    obtain ⟨ha1, ha2⟩ := List.pairwise_cons.1 ha
    obtain ⟨hb1, hb2⟩ := List.pairwise_cons.1 hb
    have e : x = y := by
      rcases List.mem_cons.1 ((h x).1 (List.mem_cons_self ..)) with e | e
      · exact e
      · rcases List.mem_cons.1 ((h y).2 (List.mem_cons_self ..)) with k | k
        · exact k.symm
        · exact absurd (lt_trans' (hb1 x e) (ha1 y k)) (lt_irrefl' _)
    subst e
    rw [up_ext ha2 hb2 fun z => ⟨fun hz => ?_, fun hz => ?_⟩]
    · rcases List.mem_cons.1 ((h z).1 (List.mem_cons_of_mem _ hz)) with e | e
      · subst e; exact absurd (ha1 z hz) (lt_irrefl' _)
      · exact e
    · rcases List.mem_cons.1 ((h z).2 (List.mem_cons_of_mem _ hz)) with e | e
      · subst e; exact absurd (hb1 z hz) (lt_irrefl' _)
      · exact e
/-! ## the document's: put in where it belongs, if it isn't there -/
def put : List T → T → List T
  | [], s => [s]
  | x :: l, s => if x < s then x :: put l s else if x = s then x :: l else s :: x :: l
theorem put_mem (s y : T) : ∀ l, y ∈ put l s ↔ y ∈ l ∨ y = s
  | [] => by simp [put]
  | x :: l => by
    unfold put
    split
    · rw [List.mem_cons, put_mem s y l, List.mem_cons, or_assoc]
    · split
      · rename_i h
        subst h
        constructor
        · exact .inl
        · rintro (h | rfl)
          · exact h
          · exact List.mem_cons_self ..
      · simp only [List.mem_cons]
        constructor
        · rintro (h | h | h)
          · exact .inr h
          · exact .inl (.inl h)
          · exact .inl (.inr h)
        · rintro ((h | h) | h)
          · exact .inr (.inl h)
          · exact .inr (.inr h)
          · exact .inl h
theorem put_up (s : T) : ∀ {l}, Up l → Up (put l s)
  | [], _ => List.pairwise_singleton _ _
  | x :: l, h => by
    obtain ⟨h1, h2⟩ := List.pairwise_cons.1 h
    unfold put
    split
    · rename_i hx
      refine List.pairwise_cons.2 ⟨fun y hy => ?_, put_up s h2⟩
      rcases (put_mem s y l).1 hy with k | rfl
      · exact h1 y k
      · exact hx
    · split
      · exact h
      · rename_i hx hn
        have hs : s < x := by
          rcases lt_tri x s with k | k | k
          · exact absurd k hx
          · exact absurd k hn
          · exact k
        refine List.pairwise_cons.2 ⟨fun y hy => ?_, h⟩
        rcases List.mem_cons.1 hy with rfl | k
        · exact hs
        · exact lt_trans' hs (h1 y k)
def gather (K : T → Bool) : List T → List T → List T
  | out, [] => out
  | out, s :: l => gather K (if K s then put out s else out) l
theorem gather_mem (K : T → Bool) (y : T) : ∀ (l out : List T), y ∈ gather K out l ↔ y ∈ out ∨ (y ∈ l ∧ K y = true)
  | [], out => by simp [gather]
  | s :: l, out => by
    unfold gather
    rw [gather_mem K y l]
    by_cases h : K s = true
    · rw [if_pos h, put_mem, List.mem_cons]
      constructor
      · rintro ((k | rfl) | ⟨k, k2⟩)
        · exact .inl k
        · exact .inr ⟨.inl rfl, h⟩
        · exact .inr ⟨.inr k, k2⟩
      · rintro (k | ⟨rfl | k, k2⟩)
        · exact .inl (.inl k)
        · exact .inl (.inr rfl)
        · exact .inr ⟨k, k2⟩
    · rw [if_neg h, List.mem_cons]
      constructor
      · rintro (k | ⟨k, k2⟩)
        · exact .inl k
        · exact .inr ⟨.inr k, k2⟩
      · rintro (k | ⟨rfl | k, k2⟩)
        · exact .inl k
        · exact absurd k2 h
        · exact .inr ⟨k, k2⟩
theorem gather_up (K : T → Bool) : ∀ (l : List T) {out : List T}, Up out → Up (gather K out l)
  | [], _, h => h
  | s :: l, out, h => by
    unfold gather
    refine gather_up K l ?_
    split
    · exact put_up s h
    · exact h
/-- the place of the first that is not smaller -/
theorem put_at (s : T) : ∀ (l : List T) (k : Nat), k ≤ l.length → (∀ j x, j < k → l[j]? = some x → x < s) → (∀ x, l[k]? = some x → ¬ x < s) → put l s = if l[k]? = some s then l else l.take k ++ s :: l.drop k
  | [], k, hk, _, _ => by
    obtain rfl : k = 0 := by simpa using hk
    simp [put]
  | x :: l, 0, _, _, h => by
    have h0 := h x rfl
    unfold put
    rw [if_neg h0]
    by_cases e : x = s
    · rw [if_pos e, if_pos (by rw [e]; rfl)]
    · rw [if_neg e, if_neg (by simpa using e)]
      rfl
  | x :: l, k + 1, hk, h1, h2 => by
    have hx := h1 0 x (by omega) rfl
    unfold put
    rw [if_pos hx, put_at s l k (by simpa using hk) (fun j y hj hy => h1 (j + 1) y (by omega) (by simpa using hy)) (fun y hy => h2 y (by simpa using hy))]
    rw [List.getElem?_cons_succ]
    split
    · rfl
    · rfl
/-! ## the program's: sorted, bare of doubles -/
theorem upTo_snoc (zs : List T) (z : T) : compactUpTo (zs ++ [z]).toArray zs.length = compactUpTo zs.toArray zs.length := by
  unfold compactUpTo
  have e : ∀ j, j < zs.length → (zs ++ [z]).toArray[j]! = zs.toArray[j]! := fun j hj => by
    simp [List.getElem!_eq_getElem?_getD, List.getElem?_append_left hj]
  have hf : (List.range zs.length).filter (keeps (zs ++ [z]).toArray) = (List.range zs.length).filter (keeps zs.toArray) := by
    refine List.filter_congr fun j hj => ?_
    have hj := List.mem_range.1 hj
    unfold keeps
    rw [e j hj, e (j - 1) (by omega)]
  rw [hf]
  refine List.map_congr_left fun j hj => ?_
  exact e j (List.mem_range.1 (List.mem_filter.1 hj).1)
theorem compact_snoc (zs : List T) (z : T) : compact (zs ++ [z]) = compact zs ++ (if zs.getLast? = some z then [] else [z]) := by
  show compactUpTo (zs ++ [z]).toArray (zs ++ [z]).length = compactUpTo zs.toArray zs.length ++ _
  rw [List.length_append, List.length_singleton, compactUpTo_succ, upTo_snoc]
  congr 1
  have hz : (zs ++ [z]).toArray[zs.length]! = z := by simp [List.getElem!_eq_getElem?_getD]
  rw [hz]
  unfold keeps
  rw [hz]
  rcases List.eq_nil_or_concat zs with rfl | ⟨l, y, rfl⟩
  · simp
  · have hy : (l.concat y ++ [z]).toArray[(l.concat y).length - 1]! = y := by
      simp [List.getElem!_eq_getElem?_getD]
    rw [hy]
    have hn : ¬ (l.concat y).length = 0 := by simp
    have hg : (l.concat y).getLast? = some y := by simp
    rw [hg]
    by_cases e : y = z
    · subst e
      rw [if_pos rfl, if_neg (by simp [hn])]
    · have k : decide ((l.concat y).length = 0 ∨ z ≠ y) = true := decide_eq_true (.inr fun h => e h.symm)
      have k2 : ¬ some y = some z := fun h => e (Option.some.inj h)
      rw [k, if_neg k2]
      rfl
theorem compact_upto (n : Nat) : ∀ (zs : List T), zs.length = n → zs.Pairwise (· ≤ ·) → Up (compact zs) ∧ ∀ x, x ∈ compact zs ↔ x ∈ zs := by
  induction n with
  | zero =>
    intro zs hz _
    obtain rfl := List.eq_nil_of_length_eq_zero hz
    exact ⟨List.Pairwise.nil, fun x => Iff.rfl⟩
  | succ n ih =>
    intro zs0 hz h
    rcases List.eq_nil_or_concat zs0 with rfl | ⟨zs, z, rfl⟩
    · cases hz
    rw [List.concat_eq_append] at h hz ⊢
    obtain ⟨h1, -, h3⟩ := List.pairwise_append.1 h
    obtain ⟨i1, i2⟩ := ih zs (by simpa using hz) h1
    have hle : ∀ x ∈ zs, x ≤ z := fun x hx => h3 x hx z (List.mem_singleton.2 rfl)
    rw [compact_snoc]
    by_cases e : zs.getLast? = some z
    · rw [if_pos e, List.append_nil]
      refine ⟨i1, fun x => ?_⟩
      rw [i2, List.mem_append, List.mem_singleton]
      constructor
      · exact .inl
      · rintro (k | rfl)
        · exact k
        · exact List.mem_of_getLast? e
    · rw [if_neg e]
      refine ⟨List.pairwise_append.2 ⟨i1, List.pairwise_singleton _ _, fun x hx y hy => ?_⟩, fun x => ?_⟩
      · obtain rfl := List.mem_singleton.1 hy
        have hx := (i2 x).1 hx
        refine lt_of_le_ne (hle x hx) fun k => ?_
        subst k
        -- the last is the greatest
        refine e ?_
        rcases List.eq_nil_or_concat zs with rfl | ⟨l, w, rfl⟩
        · cases hx
        · have hw : w ≤ x := hle w (by simp)
          have hxw : x ≤ w := by
            rw [List.concat_eq_append] at hx h1
            rcases List.mem_append.1 hx with k | k
            · exact (List.pairwise_append.1 h1).2.2 x k w (List.mem_singleton.2 rfl)
            · rw [List.mem_singleton.1 k]; exact List.le_refl _
          simp [List.le_antisymm hw hxw]
      · rw [List.mem_append, i2, List.mem_append]
theorem compact_facts (zs : List T) (h : zs.Pairwise (· ≤ ·)) : Up (compact zs) ∧ ∀ x, x ∈ compact zs ↔ x ∈ zs := compact_upto _ zs rfl h
/-- what both hand back -/
theorem orphans_same (K : T → Bool) (names : List T) : compact ((names.filter K).mergeSort fun x y => decide (x ≤ y)) = gather K [] names := by
  have hs : ((names.filter K).mergeSort fun x y => decide (x ≤ y)).Pairwise (· ≤ ·) := by
    have := List.pairwise_mergeSort (le := fun x y : T => decide (x ≤ y)) (fun a b c h1 h2 => by simp only [decide_eq_true_eq] at *; exact List.le_trans h1 h2) (fun a b => by simp only [Bool.or_eq_true, decide_eq_true_eq]; exact List.le_total a b) (names.filter K)
    exact this.imp (by simp)
  obtain ⟨h1, h2⟩ := compact_facts _ hs
  refine up_ext h1 (gather_up K names List.Pairwise.nil) fun x => ?_
  rw [h2, List.mem_mergeSort, List.mem_filter, gather_mem]
  simp
end Go.Proofs.YtmmaddmlfofgbaaDoor.Orph
/- Names of numbers in sixteen digits (layers 5 and 10): the plain law. No program in sight. -/
namespace Go.Proofs.YtmmaddmlfofgbaaDoor
set_option linter.unusedSimpArgs false
set_option linter.unusedVariables false

/-- a digit of sixteen -/
def hexDig (d : Nat) : UInt8 := if d < 10 then UInt8.ofNat (48 + d) else UInt8.ofNat (87 + d)
/-- the last k digits of a number -/
def hexDigs : Nat → Nat → List UInt8
  | 0, _ => []
  | k + 1, n => hexDigs k (n / 16) ++ [hexDig (n % 16)]
/-- what a byte counts, small letters alone -/
def lowVal (c : UInt8) : Option Nat := if 48 ≤ c.toNat ∧ c.toNat ≤ 57 then some (c.toNat - 48) else if 97 ≤ c.toNat ∧ c.toNat ≤ 102 then some (c.toNat - 87) else none
/-- what a byte counts, great letters too -/
def anyVal (c : UInt8) : Option Nat := if 48 ≤ c.toNat ∧ c.toNat ≤ 57 then some (c.toNat - 48) else if 97 ≤ (c ||| 32).toNat ∧ (c ||| 32).toNat ≤ 102 then some ((c ||| 32).toNat - 87) else none
def valFrom (f : UInt8 → Option Nat) : Nat → List UInt8 → Option Nat
  | n, [] => some n
  | n, c :: l => match f c with
    | some d => valFrom f (16 * n + d) l
    | none => none
/-- a text as a number below 2^64 -/
def parse16 (s : List UInt8) : Option Nat := if s = [] then none else match valFrom anyVal 0 s with
  | some n => if n < M64 then some n else none
  | none => none
/-- the program's answer, and the document's -/
def numbP (ahead name : List UInt8) : Nat × Bool :=
  if name.take ahead.length = ahead then
    match parse16 (name.drop ahead.length) with
    | some n => if ahead ++ hexDigs 16 n = name then (n, true) else (0, false)
    | none => (0, false)
  else (0, false)
def numbR (ahead name : List UInt8) : Nat × Bool :=
  if name.length = ahead.length + 16 ∧ name.take ahead.length = ahead then
    match valFrom lowVal 0 (name.drop ahead.length) with
    | some n => (n, true)
    | none => (0, false)
  else (0, false)

theorem hexDigs_length (k n : Nat) : (hexDigs k n).length = k := by
  induction k generalizing n with
  | zero => rfl
  | succ k ih => simp [hexDigs, ih]
theorem hexDig_toNat {d : Nat} (h : d < 16) : (hexDig d).toNat = if d < 10 then 48 + d else 87 + d := by
  unfold hexDig
  split <;> simp only [UInt8.toNat_ofNat'] <;> omega
theorem hexDig_low {d : Nat} (h : d < 16) : lowVal (hexDig d) = some d := by
  unfold lowVal
  rw [hexDig_toNat h]
  by_cases h1 : d < 10
  · rw [if_pos h1, if_pos (by omega)]; congr 1; omega
  · rw [if_neg h1, if_neg (by omega), if_pos (by omega)]; congr 1; omega
theorem low_lt {c : UInt8} {d : Nat} (h : lowVal c = some d) : d < 16 := by
  unfold lowVal at h
  split at h
  · cases h; omega
  · split at h
    · cases h; omega
    · cases h
theorem low_dig {c : UInt8} {d : Nat} (h : lowVal c = some d) : hexDig d = c := by
  have hd := low_lt h
  apply UInt8.toNat_inj.1
  rw [hexDig_toNat hd]
  unfold lowVal at h
  split at h
  · cases h; rw [if_pos (by omega)]; omega
  · split at h
    · cases h; rw [if_neg (by omega)]; omega
    · cases h
theorem low_or {c : UInt8} (h1 : 97 ≤ c.toNat) (h2 : c.toNat ≤ 102) : c ||| 32 = c := by
  have key : ∀ n, n < 103 → 97 ≤ n → (UInt8.ofNat n ||| 32) = UInt8.ofNat n := by decide +kernel
  have h := key c.toNat (by omega) h1
  rwa [UInt8.ofNat_toNat] at h
theorem low_any {c : UInt8} {d : Nat} (h : lowVal c = some d) : anyVal c = some d := by
  unfold lowVal at h
  unfold anyVal
  split at h
  · rename_i h1; rw [if_pos h1]; exact h
  · rename_i h1
    rw [if_neg h1]
    split at h
    · rename_i h2
      rw [low_or h2.1 h2.2, if_pos h2]; exact h
    · cases h
theorem valFrom_append (f : UInt8 → Option Nat) (l m : List UInt8) : ∀ n, valFrom f n (l ++ m) = match valFrom f n l with | some k => valFrom f k m | none => none := by
  induction l with
  | nil => intro n; rfl
  | cons c l ih =>
    intro n
    simp only [List.cons_append, valFrom]
    cases f c with
    | none => rfl
    | some d => exact ih _
theorem valFrom_ge (f : UInt8 → Option Nat) : ∀ (l : List UInt8) (n m : Nat), valFrom f n l = some m → n ≤ m
  | [], n, m, h => by cases h; exact Nat.le_refl _
  | c :: l, n, m, h => by
    simp only [valFrom] at h
    cases hc : f c with
    | none => rw [hc] at h; cases h
    | some d =>
      rw [hc] at h
      have := valFrom_ge f l _ m h
      omega
theorem val_digs (k : Nat) : ∀ n, n < 16 ^ k → valFrom lowVal 0 (hexDigs k n) = some n := by
  induction k with
  | zero => intro n h; have : n = 0 := by simpa using h
            subst this; rfl
  | succ k ih =>
    intro n h
    rw [hexDigs, valFrom_append, ih (n / 16) (by rw [Nat.pow_succ] at h; omega)]
    simp only [valFrom, hexDig_low (show n % 16 < 16 by omega)]
    congr 1
    omega
theorem digs_val : ∀ (l : List UInt8) (m : Nat), valFrom lowVal 0 l = some m → hexDigs l.length m = l ∧ m < 16 ^ l.length := by
  intro l
  induction hn : l.length generalizing l with
  | zero =>
    intro m h
    have : l = [] := List.length_eq_zero_iff.1 hn
    subst this
    cases h
    exact ⟨rfl, by simp⟩
  | succ k ih =>
    intro m h
    rcases List.eq_nil_or_concat l with rfl | ⟨l', c, rfl⟩
    · simp at hn
    rw [List.concat_eq_append] at *
    have hk : l'.length = k := by simpa using hn
    rw [valFrom_append] at h
    cases h1 : valFrom lowVal 0 l' with
    | none => rw [h1] at h; cases h
    | some n =>
      rw [h1] at h
      simp only [valFrom] at h
      cases hc : lowVal c with
      | none => rw [hc] at h; cases h
      | some d =>
        rw [hc] at h
        cases h
        have hd := low_lt hc
        obtain ⟨e1, e2⟩ := ih l' hk n h1
        have hdiv : (16 * n + d) / 16 = n := by omega
        have hmod : (16 * n + d) % 16 = d := by omega
        constructor
        · rw [hexDigs, hdiv, hmod, e1, low_dig hc]
        · rw [Nat.pow_succ]; omega
theorem low_any_all : ∀ (l : List UInt8) (n m : Nat), valFrom lowVal n l = some m → valFrom anyVal n l = some m
  | [], _, _, h => h
  | c :: l, n, m, h => by
    simp only [valFrom] at h ⊢
    cases hc : lowVal c with
    | none => rw [hc] at h; cases h
    | some d => rw [hc] at h; rw [low_any hc]; exact low_any_all l _ m h
theorem pow16 : (16 : Nat) ^ 16 = M64 := by decide
theorem numb_same (ahead name : List UInt8) : numbP ahead name = numbR ahead name := by
  unfold numbP numbR
  by_cases h : name.take ahead.length = ahead
  · rw [if_pos h]
    obtain ⟨s, rfl⟩ : ∃ s, name = ahead ++ s := ⟨name.drop ahead.length, by rw [← List.take_append_drop ahead.length name, h]; simp⟩
    simp only [List.drop_left, List.take_left, List.length_append, List.append_cancel_left_eq]
    by_cases hl : s.length = 16
    · rw [if_pos ⟨by omega, trivial⟩]
      have hne : s ≠ [] := by rintro rfl; simp at hl
      cases h1 : valFrom lowVal 0 s with
      | some n =>
        obtain ⟨e1, e2⟩ := digs_val s n h1
        rw [hl] at e1 e2
        have hp : parse16 s = some n := by
          unfold parse16
          rw [if_neg hne, low_any_all s 0 n h1]
          exact if_pos (by rw [← pow16]; exact e2)
        rw [hp]
        exact if_pos e1
      | none =>
        cases hp : parse16 s with
        | none => rfl
        | some n =>
          refine if_neg fun e => ?_
          have hn : n < 16 ^ 16 := by
            unfold parse16 at hp
            rw [if_neg hne] at hp
            split at hp
            · split at hp
              · rename_i h2; cases hp; rw [pow16]; exact h2
              · cases hp
            · cases hp
          have := val_digs 16 n hn
          rw [e, h1] at this
          cases this
    · rw [if_neg (by omega)]
      cases parse16 s with
      | none => rfl
      | some n =>
        refine if_neg fun e => hl ?_
        rw [← e, hexDigs_length]
  · rw [if_neg h, if_neg (fun x => h x.2)]
/-- a name reads back -/
theorem numb_back (ahead : List UInt8) (n : Nat) (h : n < M64) : numbR ahead (ahead ++ hexDigs 16 n) = (n, true) := by
  unfold numbR
  rw [if_pos ⟨by simp [hexDigs_length], by simp⟩, List.drop_left, val_digs 16 n (by rw [pow16]; exact h)]
/-- only the name of a number reads as it -/
theorem numb_name {ahead s : List UInt8} {n : Nat} (h : numbR ahead s = (n, true)) : s = ahead ++ hexDigs 16 n ∧ n < M64 := by
  unfold numbR at h
  split at h
  · rename_i h1
    split at h
    · rename_i m h2
      simp only [Prod.mk.injEq, and_true] at h
      subst h
      obtain ⟨e1, e2⟩ := digs_val _ m h2
      have hl : (s.drop ahead.length).length = 16 := by simp; omega
      rw [hl] at e1 e2
      exact ⟨by rw [e1]; conv => lhs; rw [← List.take_append_drop ahead.length s, h1.2], by rw [← pow16]; exact e2⟩
    · simp at h
  · simp at h
/-- fewer digits, noughts ahead -/
theorem hexDigs_zeros (j : Nat) : ∀ k n, n < 16 ^ k → hexDigs (j + k) n = List.replicate j 48 ++ hexDigs k n := by
  intro k
  induction k with
  | zero =>
    intro n h
    have : n = 0 := by simpa using h
    subst this
    rw [Nat.add_zero, hexDigs, List.append_nil]
    induction j with
    | zero => rfl
    | succ j ih =>
      rw [hexDigs, Nat.zero_div, ih, List.replicate_succ']
      rfl
  | succ k ih =>
    intro n h
    rw [← Nat.add_assoc, hexDigs, hexDigs, ih (n / 16) (by rw [Nat.pow_succ] at h; omega), List.append_assoc]
/-- the digits of the rest stand ahead -/
theorem hexDigs_more (j k n : Nat) : hexDigs (j + k) n = hexDigs j (n / 16 ^ k) ++ hexDigs k n := by
  induction k generalizing n with
  | zero => simp [hexDigs]
  | succ k ih =>
    rw [← Nat.add_assoc, hexDigs, ih, hexDigs, List.append_assoc, Nat.div_div_eq_div_mul, Nat.pow_succ, Nat.mul_comm]
end Go.Proofs.YtmmaddmlfofgbaaDoor
/- A region whose order is left open: one walk of one schedule serves every order, where what only reads yields the same in all worlds that the region can come to, and what writes or calls is forced into one order. No program in sight. -/
namespace Go.Proofs.YtmmaddmlfofgbaaDoor
set_option linter.unusedSimpArgs false
set_option linter.unusedVariables false
open Go.RowKit

section
variable {P : Program} {ops : Array Oper} {Q : Exit → Act → World → Prop} {md : Region.Mode} {R : World → World → Prop} {m : Nat}

/-- whatever order is picked; behind each operation, but the one that waits for all, the world is related to the one ahead -/
def wpAnyR (P : Program) (md : Region.Mode) (ops : Array Oper) (Q : Exit → Act → World → Prop) (R : World → World → Prop) (m : Nat) : Nat → Array Bool → Act → World → Prop
  | 0, listed, a, w => Region.ready md ops listed = [] ∧ Q .normal a w
  | fuel + 1, listed, a, w =>
    (Region.ready md ops listed = [] → Q .normal a w) ∧
    ∀ i ∈ Region.ready md ops listed, wpOp P ops Q i (fun a' w' => (i ≠ m → R w w') ∧ wpAnyR P md ops Q R m fuel (listed.setIfInBounds i true) a' w') a w

theorem wpAnyR_any : ∀ (fuel : Nat) (listed : Array Bool) (a : Act) (w : World), wpAnyR P md ops Q R m fuel listed a w → wpAny P md ops Q fuel listed a w
  | 0, _, _, _, h => h
  | fuel + 1, _, _, _, h => ⟨h.1, fun i hi => wpOp_mono (fun a' w' h' => wpAnyR_any fuel _ a' w' h'.2) (h.2 i hi)⟩

/-- what is listed has all that it waits for listed -/
def ClosedL (md : Region.Mode) (ops : Array Oper) (listed : Array Bool) : Prop :=
  ∀ j oj, ops[j]? = some oj → listed.getD j false = true → ∀ e ∈ oj.after, Region.binds md e = true → listed.getD e.on false = true

theorem ClosedL.set {i : Nat} {listed : Array Bool} (h : ClosedL md ops listed) (hi : i ∈ Region.ready md ops listed) : ClosedL md ops (listed.setIfInBounds i true) := by
  obtain ⟨_, oi, hoi, hall⟩ := mem_ready.1 hi
  intro j oj hj hl e he hb
  by_cases hij : i = j
  · subst hij
    have : oj = oi := Option.some.inj (hj.symm.trans hoi)
    subst this
    exact getD_set_true (hall e he hb)
  · rw [getD_set_ne false hij] at hl
    exact getD_set_true (h j oj hj hl e he hb)

/-- does operation j wait for i, directly or through others? -/
def reach (md : Region.Mode) (ops : Array Oper) : Nat → Nat → Nat → Bool
  | 0, _, _ => false
  | f + 1, j, i => match ops[j]? with
    | some oj => oj.after.any fun e => Region.binds md e && (e.on == i || reach md ops f e.on i)
    | none => false

theorem reach_listed {listed : Array Bool} (hc : ClosedL md ops listed) : ∀ (f j i : Nat), (∀ oj, ops[j]? = some oj → ∀ e ∈ oj.after, Region.binds md e = true → listed.getD e.on false = true) →
    reach md ops f j i = true → listed.getD i false = true
  | 0, _, _, _, h => by simp [reach] at h
  | f + 1, j, i, hp, h => by
    unfold reach at h
    split at h
    · rename_i oj hj
      obtain ⟨e, he, hb⟩ := Array.any_eq_true'.1 h
      simp only [Bool.and_eq_true, Bool.or_eq_true, beq_iff_eq] at hb
      have hl := hp oj hj e he hb.1
      rcases hb.2 with h1 | h1
      · rw [← h1]; exact hl
      · exact reach_listed hc f e.on i (fun o ho e' he' hb' => hc e.on o ho hl e' he' hb') h1
    · cases h

/-- m waits for all others (or is none of them) -/
def lastB (md : Region.Mode) (ops : Array Oper) (m : Nat) : Bool :=
  decide (ops.size ≤ m) || (List.range ops.size).all fun i => i == m || reach md ops ops.size m i

theorem getD_false_of {listed : Array Bool} {i : Nat} (h : listed.getD i true = false) : listed.getD i false = false := by
  rcases Nat.lt_or_ge i listed.size with h' | h'
  · simp [h'] at h ⊢; exact h
  · simp [Array.getElem?_eq_none h'] at h

theorem last_not_ready {listed : Array Bool} (hc : ClosedL md ops listed) (hl : lastB md ops m = true) {i : Nat} (hi : i < ops.size) (him : i ≠ m) (hun : listed.getD i true = false) : m ∉ Region.ready md ops listed := by
  intro hr
  obtain ⟨_, om, hom, hall⟩ := mem_ready.1 hr
  have hml : m < ops.size := (Array.getElem?_eq_some_iff.1 hom).1
  simp only [lastB, Bool.or_eq_true, decide_eq_true_eq, List.all_eq_true, List.mem_range, beq_iff_eq] at hl
  rcases hl with hl | hl
  · omega
  · rcases hl i hi with h | h
    · exact him h
    · have := reach_listed hc ops.size m i (fun oj hoj => by
        have : oj = om := Option.some.inj (hoj.symm.trans hom)
        subst this
        exact hall) h
      rw [getD_false_of hun] at this
      cases this

theorem wpAnyR_first (hrefl : ∀ w, R w w) (htrans : ∀ a b c, R a b → R b c → R a c) (hlast : lastB md ops m = true) {i : Nat} {oi : Oper} {v : Value} (hi : ops[i]? = some oi) (him : i ≠ m)
    (hsel : ∀ (j : Nat) (o : Oper) cs b, ops[j]? = some o → o.op ≠ .select cs b) (hQ : ∀ c a w, Q (.panic c) (a.put oi.dst v) w → Q (.panic c) a w) :
    ∀ (fuel : Nat) (listed : Array Bool) (a : Act) (w : World), ClosedL md ops listed →
      (∀ j oj, ops[j]? = some oj → j ≠ i → listed.getD j true = false → (∀ e ∈ oj.after, Region.binds md e = true → e.on ≠ i) → oi.apart ops oj = true) →
      i ∈ Region.ready md ops listed → YieldsIf P ops (R w) oi v a →
      wpAnyR P md ops Q R m fuel (listed.setIfInBounds i true) (a.put oi.dst v) w → wpAnyR P md ops Q R m (fuel + 1) listed a w := by
  intro fuel
  induction fuel with
  | zero =>
    intro listed a w _ _ hr hy H
    refine ⟨fun h => (by rw [h] at hr; cases hr), fun j hj => ?_⟩
    by_cases hji : j = i
    · subst hji; exact hy.wpOp hi (hrefl w) ⟨fun _ => hrefl w, H⟩
    · have := ready_mono hj hji
      rw [H.1] at this
      cases this
  | succ fuel ih =>
    intro listed a w hc hfree hr hy H
    refine ⟨fun h => (by rw [h] at hr; cases hr), fun j hj => ?_⟩
    by_cases hji : j = i
    · subst hji; exact hy.wpOp hi (hrefl w) ⟨fun _ => hrefl w, H⟩
    · have h1 := H.2 j (ready_mono hj hji)
      obtain ⟨hjun, oj, hoj, hall⟩ := mem_ready.1 hj
      have hiun := (mem_ready.1 hr).1
      have hjm : j ≠ m := by
        rintro rfl
        exact last_not_ready hc hlast (Array.getElem?_eq_some_iff.1 hi).1 him hiun hj
      have hnot : ∀ e ∈ oj.after, Region.binds md e = true → e.on ≠ i := fun e he hb heq => by
        have h1 := hall e he hb
        rw [heq, getD_false_of hiun] at h1
        cases h1
      have h2 := wpOp_putIf hoj (hfree j oj hoj hji hjun hnot) (fun cs b => hsel i oi cs b hi) (fun cs b => hsel j oj cs b hoj) hQ hy h1
      have hfree' : ∀ k ok, ops[k]? = some ok → k ≠ i → (listed.setIfInBounds j true).getD k true = false →
          (∀ e ∈ ok.after, Region.binds md e = true → e.on ≠ i) → oi.apart ops ok = true := fun k ok hk hki hun hno => by
        refine hfree k ok hk hki ?_ hno
        by_cases hjk : j = k
        · subst hjk; exact hjun
        · rw [getD_set_ne true hjk] at hun; exact hun
      refine wpOp_mono (fun a' w' h3 => ⟨h3.2.1, ih (listed.setIfInBounds j true) a' w' (hc.set hj) hfree' (ready_mono hr (Ne.symm hji)) ?_ ?_⟩) h2
      · have hR := h3.2.1 hjm
        rcases h3.1 with ⟨hw, hv⟩ | hh
        · exact .inl ⟨hw, fun w'' hw'' => hv w'' (htrans _ _ _ hR hw'')⟩
        · exact .inr hh
      · rw [Array.setIfInBounds_comm _ _ hji]
        exact h3.2.2

/-- the walk of one schedule: (i, true): operation i only reads; (i, false): it does something, and nothing else may come up then -/
def wpSch (P : Program) (ops : Array Oper) (Q : Exit → Act → World → Prop) (R : World → World → Prop) (m : Nat) : List (Nat × Bool) → Act → World → Prop
  | [], a, w => Q .normal a w
  | (i, true) :: rest, a, w => ∃ oi v, ops[i]? = some oi ∧ YieldsIf P ops (R w) oi v a ∧ wpSch P ops Q R m rest (a.put oi.dst v) w
  | (i, false) :: rest, a, w => wpOp P ops Q i (fun a' w' => (i ≠ m → R w w') ∧ wpSch P ops Q R m rest a' w') a w

def schOk (md : Region.Mode) (ops : Array Oper) (m : Nat) : List (Nat × Bool) → Array Bool → Bool
  | [], listed => (Region.ready md ops listed).isEmpty
  | (i, true) :: rest, listed => i != m && (Region.ready md ops listed).contains i && Region.free md ops listed i && schOk md ops m rest (listed.setIfInBounds i true)
  | (i, false) :: rest, listed => decide (Region.ready md ops listed = [i]) && schOk md ops m rest (listed.setIfInBounds i true)

theorem wpAnyR_of_sch (hrefl : ∀ w, R w w) (htrans : ∀ a b c, R a b → R b c → R a c) (hlast : lastB md ops m = true) (hs : Region.noSelect ops = true)
    (hQ : ∀ c a d v w, Q (.panic c) (Act.put a d v) w → Q (.panic c) a w) : ∀ (sch : List (Nat × Bool)) (listed : Array Bool) (a : Act) (w : World), ClosedL md ops listed → schOk md ops m sch listed = true →
    wpSch P ops Q R m sch a w → wpAnyR P md ops Q R m sch.length listed a w
  | [], listed, a, w, _, hB, h => ⟨by simpa [schOk] using hB, h⟩
  | (i, true) :: rest, listed, a, w, hc, hB, h => by
    obtain ⟨oi, v, hoi, hy, hk⟩ := h
    simp only [schOk, Bool.and_eq_true, bne_iff_ne, ne_eq] at hB
    obtain ⟨⟨⟨him, hr⟩, hf⟩, hB'⟩ := hB
    have hr' : i ∈ Region.ready md ops listed := by simpa using hr
    exact wpAnyR_first hrefl htrans hlast hoi him (Region.noSelect_spec hs) (fun c a w => hQ c a oi.dst v w) rest.length listed a w hc (Region.free_spec hoi hf) hr' hy
      (wpAnyR_of_sch hrefl htrans hlast hs hQ rest _ _ w (hc.set hr') hB' hk)
  | (i, false) :: rest, listed, a, w, hc, hB, h => by
    simp only [schOk, Bool.and_eq_true, decide_eq_true_eq] at hB
    refine ⟨fun h0 => (by rw [hB.1] at h0; cases h0), fun j hj => ?_⟩
    have hr' : i ∈ Region.ready md ops listed := by rw [hB.1]; simp
    rw [hB.1] at hj
    obtain rfl : j = i := by simpa using hj
    exact wpOp_mono (fun a' w' h' => ⟨h'.1, wpAnyR_of_sch hrefl htrans hlast hs hQ rest _ a' w' (hc.set hr') hB.2 h'.2⟩) h

def regionOk (ops : Array Oper) (m : Nat) (sch : List (Nat × Bool)) : Bool :=
  Region.noSelect ops && lastB .any ops m && decide (sch.length = ops.size) && schOk .any ops m sch (Array.replicate ops.size false)

theorem rep_false (k j : Nat) : (Array.replicate k false).getD j false = false := by
  rcases Nat.lt_or_ge j k with h | h
  · simp [h]
  · simp [h]

theorem wp_region_sch {id : Nat} {l : List Oper} (R : World → World → Prop) (m : Nat) (sch : List (Nat × Bool)) (hm : P.follows .mixedOrders = true) (hB : regionOk l.toArray m sch = true)
    (hrefl : ∀ w, R w w) (htrans : ∀ a b c, R a b → R b c → R a c) {a : Act} {w : World} (hQ : ∀ c a d v w, Q (.panic c) (Act.put a d v) w → Q (.panic c) a w)
    (h : wpSch P l.toArray Q R m sch a w.drew) : (Code.region id l.toArray true).wp P Q a w := by
  simp only [regionOk, Bool.and_eq_true, decide_eq_true_eq] at hB
  obtain ⟨⟨⟨hs, hl⟩, hn⟩, hok⟩ := hB
  refine wp_region_any hm ?_
  have hc : ClosedL .any l.toArray (Array.replicate l.toArray.size false) := fun j oj hj hlj => by
    have := rep_false l.toArray.size j
    rw [this] at hlj
    cases hlj
  have := wpAnyR_of_sch hrefl htrans hl hs hQ sch _ a w.drew hc hok h
  rw [hn] at this
  exact wpAnyR_any _ _ _ _ this

/-- a step that only reads -/
theorem wpSch_q {l : List Oper} {i : Nat} {o : Oper} {rest : List (Nat × Bool)} {a : Act} {w : World} (v : Value) (ho : l[i]? = some o) (hw : Region.wanted o (yielded l.toArray a.tmps) = true)
    (h : ∀ w', R w w' → (execOp a.eval o).run P w' = .ok (.value v) w') (hk : wpSch P l.toArray Q R m rest (a.put o.dst v) w) : wpSch P l.toArray Q R m ((i, true) :: rest) a w :=
  ⟨o, v, by simpa using ho, .inl ⟨hw, h⟩, hk⟩
/-- a step that does something -/
theorem wpSch_e {l : List Oper} {i : Nat} {o : Oper} {rest : List (Nat × Bool)} {a : Act} {w : World} (ho : l[i]? = some o) (hw : Region.wanted o (yielded l.toArray a.tmps) = true)
    (h : ∀ K : Act → World → Prop, (∀ a' w', (i ≠ m → R w w') → wpSch P l.toArray Q R m rest a' w' → K a' w') → o.wp P a w K Q) : wpSch P l.toArray Q R m ((i, false) :: rest) a w := by
  have ho' : l.toArray[i]? = some o := by simpa using ho
  unfold wpSch wpOp
  simp only [ho', hw, if_true]
  exact .inl (h _ fun a' w' h1 h2 => ⟨h1, h2⟩)
theorem wpSch_nil {a : Act} {w : World} (h : Q .normal a w) : wpSch P ops Q R m [] a w := h
end

/-- of the blocks that S names, as far as they are there, nothing turns -/
def RS (S : Nat → Prop) (w w' : World) : Prop := w.heap.size ≤ w'.heap.size ∧ ∀ b o, S b → b < w.heap.size → w'.cell? ⟨b, o, none⟩ = w.cell? ⟨b, o, none⟩
namespace RS
variable {S : Nat → Prop} {w w' : World}
theorem refl (w : World) : RS S w w := ⟨Nat.le_refl _, fun _ _ _ _ => rfl⟩
theorem trans (a b c : World) (h : RS S a b) (k : RS S b c) : RS S a c := ⟨Nat.le_trans h.1 k.1, fun x o hs hx => (k.2 x o hs (Nat.lt_of_lt_of_le hx h.1)).trans (h.2 x o hs hx)⟩
theorem ext (h : Ext w w') : RS S w w' := ⟨h.size, fun b o _ hb => h.cell (p := ⟨b, o, none⟩) hb⟩
theorem alloc (o : Obj) : RS S w (w.alloc o) := ext (Ext.al w o)
theorem setCell {g i : Nat} (u : Value) (h : ¬ S g) : RS S w (w.setCell ⟨g, i, none⟩ u) :=
  ⟨by simp [World.setCell], fun b o hs _ => World.cell?_setCell_other w _ _ u (by rintro e; cases e; exact h hs)⟩
theorem box {t : TypeId} {cs : Array Value} {g : Nat} (hz : w.heap.size ≤ w'.heap.size) (h : Box w g t cs) (h' : Box w' g t cs) : RS (· = g) w w' :=
  ⟨hz, fun b o hs _ => by subst hs; rw [h.cell, h'.cell]⟩
end RS
end Go.Proofs.YtmmaddmlfofgbaaDoor
/- What stays: a frame by blocks. No program in sight. -/
namespace Go.Proofs.YtmmaddmlfofgbaaDoor
set_option linter.unusedSimpArgs false
set_option linter.unusedVariables false
open Go.RowKit

/-- of the blocks that are there, those that S names stay as they are -/
structure Fr (S : Nat → Prop) (w w' : World) : Prop where
  os : w'.os = w.os
  tape : w'.tape = w.tape
  output : w'.output = w.output
  size : w.heap.size ≤ w'.heap.size
  block : ∀ b, b < w.heap.size → S b → w'.heap[b]? = w.heap[b]?
namespace Fr
variable {S S' : Nat → Prop} {w w' a b c : World}
theorem refl (w : World) : Fr S w w := ⟨rfl, rfl, rfl, Nat.le_refl _, fun _ _ _ => rfl⟩
theorem trans (h : Fr S a b) (k : Fr S b c) : Fr S a c :=
  ⟨k.os.trans h.os, k.tape.trans h.tape, k.output.trans h.output, Nat.le_trans h.size k.size, fun j hj hs => (k.block j (Nat.lt_of_lt_of_le hj h.size) hs).trans (h.block j hj hs)⟩
theorem mono (h : Fr S a b) (hs : ∀ x, x < a.heap.size → S' x → S x) : Fr S' a b := ⟨h.os, h.tape, h.output, h.size, fun j hj hj' => h.block j hj (hs j hj hj')⟩
theorem of_ext (h : Ext w w') : Fr S w w' := ⟨h.os, h.tape, h.output, h.size, fun j hj _ => h.block j hj⟩
theorem ext (h : Fr S w w') (k : ∀ x, x < w.heap.size → S x) : Ext w w' := ⟨h.os, h.tape, h.output, h.size, fun j hj => h.block j hj (k j hj)⟩
theorem of_grown {row : Option Nat} (h : w.grownBy w' row) (hr : ∀ g, row = some g → g < w.heap.size → ¬ S g) : Fr S w w' :=
  ⟨h.os, h.tape, h.output, h.size, fun j hj hs => h.block j hj fun e => hr j e.symm hj hs⟩
theorem al (w : World) (o : Obj) : Fr S w (w.alloc o) := of_ext (Ext.al w o)
theorem alloc (h : Fr S a w) (o : Obj) : Fr S a (w.alloc o) := h.trans (al w o)
theorem drew (h : Fr S a w) : Fr S a w.drew := h.trans (of_ext (Ext.dr w))
theorem drewN (h : Fr S a w) (n : Nat) : Fr S a (w.drewN n) := ⟨h.os, h.tape, h.output, h.size, h.block⟩
theorem set (h : Fr S a w) {p : Addr} (u : Value) (hp : p.block < a.heap.size → ¬ S p.block) : Fr S a (w.setCell p u) :=
  ⟨h.os, h.tape, h.output, by simpa [World.setCell] using h.size, fun k hk hs => (Below.heap_setCell w p u k (fun e => by subst e; exact hp hk hs)).trans (h.block k hk hs)⟩
/-- a step whose own frame names more than ours -/
theorem step (h : Fr S a b) (k : Fr S' b c) (hs : ∀ x, x < a.heap.size → S x → S' x) : Fr S a c :=
  ⟨k.os.trans h.os, k.tape.trans h.tape, k.output.trans h.output, Nat.le_trans h.size k.size, fun j hj hj' => (k.block j (Nat.lt_of_lt_of_le hj h.size) (hs j hj hj')).trans (h.block j hj hj')⟩
theorem ext_step (h : Fr S a b) (k : Ext b c) : Fr S a c := h.trans (of_ext k)
theorem grown_step {row : Option Nat} (h : Fr S a b) (k : b.grownBy c row) (hr : ∀ g, row = some g → g < a.heap.size → ¬ S g) : Fr S a c :=
  ⟨k.os.trans h.os, k.tape.trans h.tape, k.output.trans h.output, Nat.le_trans h.size k.size, fun j hj hs => (k.block j (Nat.lt_of_lt_of_le hj h.size) fun e => hr j e.symm hj hs).trans (h.block j hj hs)⟩
end Fr
/-- all but block g -/
abbrev Chg (g : Nat) (w w' : World) : Prop := Fr (· ≠ g) w w'
theorem Chg.of_ext {g : Nat} {w w' : World} (h : Ext w w') : Chg g w w' := Fr.of_ext h
theorem Chg.refl (g : Nat) (w : World) : Chg g w w := Fr.refl w
theorem Chg.set {g i : Nat} {w w' : World} (h : Chg g w w') (v : Value) : Chg g w (w'.setCell ⟨g, i, none⟩ v) := Fr.set h v (fun _ k => k rfl)
theorem Box.fr {S : Nat → Prop} {w w' : World} {g : Nat} {t : TypeId} {cs : Array Value} (h : Box w g t cs) (hf : Fr S w w') (hs : S g) : Box w' g t cs := h.keep (hf.block g h.lt hs)
theorem Row.fr {S : Nat → Prop} {w w' : World} {lo hi sz n : Nat} {A : Option Addr} {xs : List Value} (h : Row w lo hi sz A n xs) (hf : Fr S w w') (hh : hi ≤ w.heap.size) (hs : ∀ b, lo ≤ b → b < hi → S b) : Row w' lo hi sz A n xs :=
  h.keep fun b h1 h2 => hf.block b (by omega) (hs b h1 h2)
theorem Own.fr {α : Type} {S : Nat → Prop} {w w' : World} {base : Nat} {e : TypeId} {f : α → List Value} {sz : Nat} {A : Option Addr} {c : Nat} {l : List α} (h : Own w base e f sz A c l) (hf : Fr S w w') (hs : ∀ b, base ≤ b → b < w.heap.size → S b) :
    Own w' base e f sz A c l := h.keep fun b h1 h2 => hf.block b h2 (hs b h1 h2)
theorem Box.drew {w : World} {g : Nat} {t : TypeId} {cs : Array Value} (h : Box w g t cs) : Box w.drew g t cs := h
theorem RS.fr {S S' : Nat → Prop} {w w' : World} (h : Fr S' w w') (hs : ∀ b, b < w.heap.size → S b → S' b) : RS S w w' :=
  ⟨h.size, fun b o h1 h2 => World.cell?_of_block (w := w) (a := ⟨b, o, none⟩) (h.block b h2 (hs b h2 h1))⟩

end Go.Proofs.YtmmaddmlfofgbaaDoor
/- Memory of a call's own, as a list of what lies in it: each thing has blocks of its own. No program in sight. -/
namespace Go.Proofs.YtmmaddmlfofgbaaDoor
set_option linter.unusedSimpArgs false
set_option linter.unusedVariables false
open Go.RowKit

/-- a slot is written by the kit's own program, not by simp: the goal turns into one of a move of a constant -/
theorem fastK (P : Program) {K : Act → World → Prop} {a : Act} {d : Tmp} {dst : Option Tmp} {v : Value} {w : World} (hd : dst = some d) (h : (Oper.mk (some d) (.move (.const v)) 0 "" #[] none).wp P a w K (fun _ _ _ => True)) : K (a.put dst v) w := by subst hd; exact h
theorem fastN {K : Act → World → Prop} {a : Act} {dst : Option Tmp} {v : Value} {w : World} (hd : dst = none) (h : K a w) : K (a.put dst v) w := by subst hd; exact h

/-- a block of cells; a slice that owns its row -/
inductive Res : Type 1 where
  | bx (g : Nat) (t : TypeId) (cs : List Value)
  | ow {α : Type} (e : TypeId) (f : α → List Value) (sz : Nat) (A : Option Addr) (c : Nat) (l : List α)
  | th (F : Nat → Prop) (P : World → Prop) (h1 : ∀ w b, P w → F b → b < w.heap.size) (h2 : ∀ w w', P w → (∀ b, F b → w'.heap[b]? = w.heap[b]?) → P w')
namespace Res
def fp : Res → Nat → Prop
  | bx g _ _, b => b = g
  | ow _ _ _ A _ _, b => ownBlk A = some b
  | th F _ _ _, b => F b
def at_ : Res → World → Prop
  | bx g t cs, w => Box w g t cs.toArray
  | ow e f sz A c l, w => Own w 0 e f sz A c l
  | th _ P _ _, w => P w
theorem low {r : Res} {w : World} {b : Nat} (h : r.at_ w) (hb : r.fp b) : b < w.heap.size := by
  cases r with
  | bx g t cs => obtain rfl : b = g := hb; exact Box.lt h
  | ow e f sz A c l => exact (Own.blk h b hb).2
  | th F P h1 h2 => exact h1 w b h hb
theorem keep {r : Res} {w w' : World} (h : r.at_ w) (hk : ∀ b, r.fp b → w'.heap[b]? = w.heap[b]?) : r.at_ w' := by
  cases r with
  | bx g t cs => exact Box.keep h (hk g rfl)
  | ow e f sz A c l =>
    obtain ⟨h1, h2⟩ := h
    refine ⟨h1, ?_⟩
    rcases h2 with h2 | ⟨g, cap, cur, hv, hg, hh, r⟩
    · exact .inl h2
    · refine .inr ⟨g, cap, cur, hv, hg, (hk g ?_).trans hh, r⟩
      injection hv with hv
      show ownBlk A = some g
      rw [hv]; rfl
  | th F P h1 h2 => exact h2 w w' h hk
end Res
open Res

/-- one of the list, and the list with another one in its place -/
inductive Pick : List Res → Res → (Res → List Res) → Prop where
  | head {c : Res} {l : List Res} : Pick (c :: l) c (fun d => d :: l)
  | tail {b c : Res} {l : List Res} {f : Res → List Res} : Pick l c f → Pick (b :: l) c (fun d => b :: f d)
theorem Pick.split {l : List Res} {c : Res} {f : Res → List Res} (h : Pick l c f) : ∃ A B, l = A ++ c :: B ∧ ∀ d, f d = A ++ d :: B := by
  induction h with
  | head => exact ⟨[], _, rfl, fun _ => rfl⟩
  | tail _ ih =>
    obtain ⟨A, B, e, k⟩ := ih
    exact ⟨_ :: A, B, by rw [e]; rfl, fun d => congrArg (_ :: ·) (k d)⟩
theorem Pick.mem {l : List Res} {c : Res} {f : Res → List Res} (h : Pick l c f) : c ∈ l := by
  obtain ⟨A, B, rfl, _⟩ := h.split
  simp

/-- what the call's own memory holds at w: the blocks that S names are as they were at w0 -/
structure Mem (S : Nat → Prop) (w0 : World) (l : List Res) (w : World) : Prop where
  fr : Fr S w0 w
  lo : ∀ x, S x → x < w0.heap.size
  all : ∀ r ∈ l, r.at_ w
  out : ∀ r ∈ l, ∀ b, r.fp b → ¬ S b
  apart : l.Pairwise fun r s => ∀ b, r.fp b → ¬ s.fp b
namespace Mem
variable {S : Nat → Prop} {w0 w w' : World} {l : List Res}
theorem start (w : World) : Mem (· < w.heap.size) w [] w := ⟨Fr.refl w, fun _ h => h, by simp, by simp, List.Pairwise.nil⟩
theorem ext (M : Mem S w0 l w) (h : Ext w w') : Mem S w0 l w' :=
  ⟨M.fr.ext_step h, M.lo, fun r hr => Res.keep (M.all r hr) fun b hb => h.block b (Res.low (M.all r hr) hb), M.out, M.apart⟩
theorem drew (M : Mem S w0 l w) : Mem S w0 l w.drew := M.ext (Ext.dr w)
theorem new (M : Mem S w0 l w) (h : Ext w w') (r : Res) (hr : r.at_ w') (hf : ∀ b, r.fp b → w.heap.size ≤ b) : Mem S w0 (r :: l) w' := by
  have M' := M.ext h
  refine ⟨M'.fr, M.lo, fun s hs => ?_, fun s hs b hb hS => ?_, List.pairwise_cons.2 ⟨fun s hs b hb hb' => ?_, M.apart⟩⟩
  · rcases List.mem_cons.1 hs with rfl | hs
    · exact hr
    · exact M'.all s hs
  · rcases List.mem_cons.1 hs with rfl | hs
    · have := hf b hb
      have := M.lo b hS
      have := M.fr.size
      omega
    · exact M.out s hs b hb hS
  · have := hf b hb
    have := Res.low (M.all s hs) hb'
    omega
theorem al (M : Mem S w0 l w) (t : TypeId) (cs : List Value) : Mem S w0 (bx w.heap.size t cs :: l) (w.alloc (.cells cs.toArray t)) :=
  M.new (Ext.al w _) (bx w.heap.size t cs) (Box.new w t _) (fun b hb => Nat.le_of_eq (Eq.symm hb))
theorem nil_ (M : Mem S w0 l w) {α : Type} (e : TypeId) (f : α → List Value) (sz : Nat) : Mem S w0 (ow e f sz none 0 [] :: l) w :=
  M.new (Below.refl _ _) _ (Own.nil_ (f := f)) (fun b hb => by cases hb)
theorem put {r : Res} {f : Res → List Res} (M : Mem S w0 l w) (p : Pick l r f) (h : Fr (fun b => ¬ r.fp b) w w') (r' : Res) (hr : r'.at_ w') (hf : ∀ b, r'.fp b → r.fp b ∨ w.heap.size ≤ b) : Mem S w0 (f r') w' := by
  obtain ⟨A, B, rfl, hk⟩ := p.split
  rw [hk]
  have hap := List.pairwise_append.1 M.apart
  have hap2 := List.pairwise_cons.1 hap.2.1
  have hlow : ∀ s ∈ A ++ r :: B, ∀ b, s.fp b → b < w.heap.size := fun s hs b hb => Res.low (M.all s hs) hb
  have hA : ∀ s ∈ A, ∀ b, s.fp b → ¬ r.fp b := fun s hs b => hap.2.2 s hs r (by simp) b
  have hB : ∀ s ∈ B, ∀ b, s.fp b → ¬ r.fp b := fun s hs b hb hr => hap2.1 s hs b hr hb
  have hr' : ∀ s, (s ∈ A ∨ s ∈ B) → ∀ b, r'.fp b → ¬ s.fp b := fun s hs b hb hsb => by
    have hm : s ∈ A ++ r :: B := by rcases hs with hs | hs <;> simp [hs]
    rcases hf b hb with h1 | h1
    · rcases hs with hs | hs
      · exact hA s hs b hsb h1
      · exact hB s hs b hsb h1
    · have := hlow s hm b hsb; omega
  refine ⟨M.fr.step h (fun x _ hS hrx => M.out r (by simp) x hrx hS), M.lo, fun s hs => ?_, fun s hs b hb hS => ?_, ?_⟩
  · rcases List.mem_append.1 hs with hs | hs
    · exact Res.keep (M.all s (by simp [hs])) fun b hb => h.block b (hlow s (by simp [hs]) b hb) (hA s hs b hb)
    · rcases List.mem_cons.1 hs with rfl | hs
      · exact hr
      · exact Res.keep (M.all s (by simp [hs])) fun b hb => h.block b (hlow s (by simp [hs]) b hb) (hB s hs b hb)
  · rcases List.mem_append.1 hs with hs | hs
    · exact M.out s (by simp [hs]) b hb hS
    · rcases List.mem_cons.1 hs with rfl | hs
      · rcases hf b hb with h1 | h1
        · exact M.out r (by simp) b h1 hS
        · have := M.lo b hS
          have := M.fr.size
          omega
      · exact M.out s (by simp [hs]) b hb hS
  · refine List.pairwise_append.2 ⟨hap.1, List.pairwise_cons.2 ⟨fun s hs b hb => hr' s (.inr hs) b hb, hap2.2⟩, fun s hs t ht b hb => ?_⟩
    rcases List.mem_cons.1 ht with rfl | ht
    · exact fun hb' => hr' s (.inl hs) b hb' hb
    · exact hap.2.2 s hs t (by simp [ht]) b hb
theorem get {r : Res} {f : Res → List Res} (M : Mem S w0 l w) (p : Pick l r f) : r.at_ w := M.all r p.mem
theorem box {g : Nat} {t : TypeId} {cs : List Value} {f : Res → List Res} (M : Mem S w0 l w) (p : Pick l (bx g t cs) f) : Box w g t cs.toArray := M.get p
theorem own {α : Type} {e : TypeId} {f : α → List Value} {sz : Nat} {A : Option Addr} {c : Nat} {xs : List α} {F : Res → List Res} (M : Mem S w0 l w) (p : Pick l (ow e f sz A c xs) F) : Own w 0 e f sz A c xs := M.get p
theorem set {g : Nat} {t : TypeId} {cs : List Value} {f : Res → List Res} (M : Mem S w0 l w) (p : Pick l (bx g t cs) f) (i : Nat) (v : Value) : Mem S w0 (f (bx g t (cs.set i v))) (w.setCell ⟨g, i, none⟩ v) :=
  M.put p (Fr.set (p := ⟨g, i, none⟩) (Fr.refl w) v (fun _ h => h (rfl : g = g))) _ (by
    have := (M.box p).put i v
    show Box _ g t (cs.set i v).toArray
    simpa using this) (fun _ h => .inl h)
theorem ext_of (M : Mem (· < w.heap.size) w l w') : Ext w w' := M.fr.ext fun _ h => h
end Mem

/-! ## the operations -/
abbrev OneT (P : Program) (t : TypeId) : Prop := ∀ w, (isAgg t).run P w = .ok false w ∧ (sizeOf t).run P w = .ok 1 w
abbrev RowT (P : Program) (t : TypeId) (n : Nat) : Prop := ∀ w, (isAgg t).run P w = .ok true w ∧ (sizeOf t).run P w = .ok n w
section
variable {P : Program} {S : Nat → Prop} {w0 w : World} {l : List Res} {o : Oper} {a : Act} {K : Act → World → Prop} {Q : Exit → Act → World → Prop}

theorem run_loadVar_one {t : TypeId} (ht : OneT P t) {p : Addr} {v : Value} (hv : w.cell? p = some v) : (loadVar t p).run P w = .ok v w := by
  simp [loadVar, Sem.run_bind, (ht w).1, run_load, hv]
theorem run_loadVar_cells {t : TypeId} {g i : Nat} {cs : List Value} (ht : RowT P t cs.length) (hc : ∀ j u, cs[j]? = some u → w.cell? ⟨g, i + j, none⟩ = some u) : (loadVar t ⟨g, i, none⟩).run P w = .ok (.agg cs.toArray) w := by
  have hl : (loadCells ⟨g, i, none⟩ cs.length).run P w = .ok cs.toArray w :=
    run_loadCells_list (P := P) w ⟨g, i, none⟩ cs (fun j v hv => by rw [Addr.add_mid]; exact hc j v hv)
  simp [loadVar, Sem.run_bind, (ht w).1, (ht w).2, hl]
theorem run_loadVar_box {t u : TypeId} {g : Nat} {cs : List Value} (ht : RowT P t cs.length) (hb : Box w g u cs.toArray) : (loadVar t ⟨g, 0, none⟩).run P w = .ok (.agg cs.toArray) w :=
  run_loadVar_cells ht fun j v hv => by rw [Nat.zero_add, hb.cell]; simpa using hv

theorem wp_load1 (M : Mem S w0 l w) (t : TypeId) (x : Operand) (ho : o.op = .load t x) (g i : Nat) (hx : a.eval x = .pointer (some ⟨g, i, none⟩)) {u : TypeId} {cs : List Value} {f : Res → List Res}
    (p : Pick l (bx g u cs) f) (hn : OneT P t) (v : Value) (hv : cs[i]? = some v) (h : K (a.put o.dst v) w) : o.wp P a w K Q := by
  have hc : w.cell? ⟨g, i, none⟩ = some v := by rw [(M.box p).cell]; simpa using hv
  unfold Oper.wp execOp
  simp only [ho, hx, Instr.loadAt, Instr.sureAddr, Sem.run_bind, Sem.run_pure, Result.andThen_ok, run_loadVar_one hn hc]
  exact h
theorem wp_loadN (M : Mem S w0 l w) (t : TypeId) (x : Operand) (ho : o.op = .load t x) (g : Nat) (hx : a.eval x = .pointer (some ⟨g, 0, none⟩)) {u : TypeId} {cs : List Value} {f : Res → List Res}
    (p : Pick l (bx g u cs) f) (hn : RowT P t cs.length) (h : K (a.put o.dst (.agg cs.toArray)) w) : o.wp P a w K Q := by
  unfold Oper.wp execOp
  simp only [ho, hx, Instr.loadAt, Instr.sureAddr, Sem.run_bind, Sem.run_pure, Result.andThen_ok, run_loadVar_box hn (M.box p)]
  exact h
theorem ex_load1 {w' : World} (t : TypeId) (x : Operand) (ho : o.op = .load t x) (p : Addr) (hx : a.eval x = .pointer (some p)) (hn : OneT P t) (v : Value) (hv : w'.cell? p = some v) : (execOp a.eval o).run P w' = .ok (.value v) w' := by
  unfold execOp
  simp only [ho, hx, Instr.loadAt, Instr.sureAddr, Sem.run_bind, Sem.run_pure, Result.andThen_ok, run_loadVar_one hn hv]
theorem run_store_setCells {t : TypeId} {g i : Nat} {v : Value} {ws : List Value} {u : TypeId} {cs : Array Value} (hb : Box w g u cs) (hi : i + ws.length ≤ cs.size) (hv : v.cells = ws.toArray) (hn : (sizeOf t).run P w = .ok ws.length w) (h1 : ws.all (·.oneCell') = true) :
    (storeVar t ⟨g, i, none⟩ v).run P w = .ok () (w.setCells g i ws) := by
  have := run_storeCells_cells (P := P) g i ws 0 w (fun j hj => by rw [hb.cell]; simp; omega) (fun j hj => hb.frozen _) (fun v hv => (List.all_eq_true.1 h1) v hv)
  simp only [Nat.add_zero] at this
  simp [storeVar, Sem.run_bind, hn, hv, this]
theorem box_setCells {g : Nat} {u : TypeId} : ∀ (ws A B : List Value) (w : World), Box w g u (A ++ (B.take ws.length) ++ B.drop ws.length).toArray → ws.length ≤ B.length → Box (w.setCells g A.length ws) g u (A ++ ws ++ B.drop ws.length).toArray ∧ Fr (· ≠ g) w (w.setCells g A.length ws)
  | [], A, B, w, h, _ => ⟨by simpa [World.setCells] using h, by simpa [World.setCells] using Fr.refl w⟩
  | v :: ws, A, [], w, _, hl => by simp at hl
  | v :: ws, A, b :: B, w, h, hl => by
    have h1 := h.put A.length v
    have h2 : ((A ++ List.take (v :: ws).length (b :: B) ++ List.drop (v :: ws).length (b :: B)).toArray.setIfInBounds A.length v) = ((A ++ [v]) ++ B.take ws.length ++ B.drop ws.length).toArray := by
      simp
    rw [h2] at h1
    obtain ⟨h3, h4⟩ := box_setCells ws (A ++ [v]) B _ h1 (by simpa using hl)
    have e : (A ++ [v]).length = A.length + 1 := by simp
    rw [e] at h3 h4
    refine ⟨?_, ?_⟩
    · simpa [World.setCells] using h3
    · exact ((Fr.refl w).set v (fun _ h => h rfl)).trans h4
/-- a value's cells -/
inductive CellsOf : Value → List Value → Prop where
  | agg (cs : List Value) : CellsOf (.agg cs.toArray) cs
  | int (k : IntKind) (n : Int) : CellsOf (.int k n) [.int k n]
  | str (s : ByteArray) : CellsOf (.string s) [.string s]
  | bool (b : Bool) : CellsOf (.bool b) [.bool b]
  | slice (A : Option Addr) (n c : Nat) : CellsOf (.slice A n c) [.slice A n c]
  | pointer (p : Option Addr) : CellsOf (.pointer p) [.pointer p]
theorem CellsOf.eq {v : Value} {cs : List Value} (h : CellsOf v cs) : v.cells = cs.toArray := by cases h <;> rfl
theorem wp_store1 (M : Mem S w0 l w) (t : TypeId) (x y : Operand) (ho : o.op = .store t x y) (g i : Nat) (hx : a.eval x = .pointer (some ⟨g, i, none⟩)) {u : TypeId} {cs : List Value} {f : Res → List Res}
    (p : Pick l (bx g u cs) f) (hn : OneT P t) (v : Value) (hco : CellsOf (a.eval y) [v]) (h1 : v.oneCell' = true) (hi : i < cs.length)
    (h : ∀ w', Mem S w0 (f (bx g u (cs.set i v))) w' → K (a.put o.dst undef) w') : o.wp P a w K Q := by
  have hsz : (sizeOf t).run P w = .ok [v].length w := (hn w).2
  unfold Oper.wp execOp
  simp only [ho, hx, Instr.storeAt, Instr.sureAddr, Sem.run_bind, Sem.run_pure, Result.andThen_ok, run_store_setCells (M.box p) (i := i) (ws := [v]) (by simp; omega) hco.eq hsz (by simp [h1])]
  exact h _ (M.set p i v)
theorem wp_storeN (M : Mem S w0 l w) (t : TypeId) (x y : Operand) (ho : o.op = .store t x y) (g : Nat) (hx : a.eval x = .pointer (some ⟨g, 0, none⟩)) {u : TypeId} {cs : List Value} {f : Res → List Res}
    (p : Pick l (bx g u cs) f) (hn : RowT P t cs.length) (ws : List Value) (hy : a.eval y = .agg ws.toArray) (hl : ws.length = cs.length) (h1 : ws.all (·.oneCell') = true)
    (h : ∀ w', Mem S w0 (f (bx g u ws)) w' → K (a.put o.dst undef) w') : o.wp P a w K Q := by
  have hsz : (sizeOf t).run P w = .ok ws.length w := by rw [hl]; exact (hn w).2
  unfold Oper.wp execOp
  simp only [ho, hx, hy, Instr.storeAt, Instr.sureAddr, Sem.run_bind, Sem.run_pure, Result.andThen_ok, run_store_setCells (M.box p) (i := 0) (v := .agg ws.toArray) (ws := ws) (by simp; omega) rfl hsz h1]
  obtain ⟨h2, h3⟩ := box_setCells (g := g) (u := u) ws [] cs w (by have := M.box p; rw [List.nil_append, List.take_append_drop]; exact this) (by omega)
  refine h _ (M.put p (Fr.mono h3 (fun _ _ h e => h e)) _ ?_ (fun _ h => .inl h))
  have e : cs.drop ws.length = [] := by rw [hl]; simp
  rw [e] at h2
  show Box _ g u ws.toArray
  simpa using h2
theorem wp_box (M : Mem S w0 l w) (t : TypeId) (x : Operand) (ho : o.op = .box t x) (cs : List Value) (hco : CellsOf (a.eval x) cs)
    (h : ∀ g w', Mem S w0 (bx g t cs :: l) w' → K (a.put o.dst (.pointer (some ⟨g, 0, none⟩))) w') : o.wp P a w K Q := by
  have M' := M.al t cs
  have hc := hco.eq
  unfold Oper.wp execOp
  simp only [ho, Instr.box, newVar, newRow, hc]
  go_simp
  exact h _ _ M'
theorem wp_alloc (M : Mem S w0 l w) (t : TypeId) (ho : o.op = .alloc t) (v : Value) (hz : (zeroValue t).run P w = .ok v w) (cs : List Value) (hco : CellsOf v cs)
    (h : ∀ g w', Mem S w0 (bx g t cs :: l) w' → K (a.put o.dst (.pointer (some ⟨g, 0, none⟩))) w') : o.wp P a w K Q := by
  have M' := M.al t cs
  have hc := hco.eq
  unfold Oper.wp execOp
  simp only [ho, Instr.alloc, newVar, newRow, Sem.run_bind, hz, Result.andThen_ok, hc]
  go_simp
  exact h _ _ M'
/-- a slice of one element, made for an append -/
theorem wp_single (M : Mem S w0 l w) {t e : TypeId} {sz bytes : Nat} (E : ElemOf P t e sz bytes) (x : Operand) (ho : o.op = .buildSlice t 1 #[(0, x)]) (cs : List Value) (hco : CellsOf (a.eval x) cs) (hl : cs.length = sz) (hsm : sz ≤ 16777216)
    (h : ∀ g w', Mem S w0 (bx g e cs :: l) w' → K (a.put o.dst (.slice (some ⟨g, 0, none⟩) 1 1)) w') : o.wp P a w K Q := by
  have M' := M.al e cs
  have hc := hco.eq
  obtain ⟨i, z, hi, hz, hsz, hby, hzs⟩ := E.info
  have hp := E.pos
  have hze : (zeroValue e).run P w = .ok z w := by simp [zeroValue, typeInfo, hi, hz, Sem.run_bind]
  have hsi : (sizeOf e).run P w = .ok sz w := by simp [sizeOf, typeInfo, hi, hsz, Sem.run_bind]
  have hfill : ∀ C : Array Value, C.size = sz → Instr.fill (fun i => some (i * sz, sz)) C [(0, a.eval x)] = some cs.toArray := fun C hC => by
    unfold Instr.fill
    simp only [Nat.zero_mul, hc, List.size_toArray, hl, hC, Nat.zero_add, ne_eq, not_true, decide_false, gt_iff_lt, Nat.lt_irrefl, Bool.or_self, Bool.false_eq_true, if_false, Instr.fill]
    refine congrArg some ?_
    have key : ∀ (k : Nat), k ≤ sz → ∀ (D : Array Value), D.size = sz → (∀ j, j < sz - k → D[j]? = cs[j]?) → ((cs.toArray.zipIdx.toList.drop (sz - k)).foldl (fun (D : Array Value) (p : Value × Nat) => D.setIfInBounds p.2 p.1) D) = cs.toArray := by
      intro k
      induction k with
      | zero =>
        intro _ D hD hj
        rw [List.drop_of_length_le (by simp; omega)]
        refine Array.ext_getElem? fun j => ?_
        by_cases hjs : j < sz
        · rw [List.foldl_nil, hj j (by omega)]; simp
        · rw [List.foldl_nil, Array.getElem?_eq_none (by omega), Array.getElem?_eq_none (by simp; omega)]
      | succ k ih =>
        intro hk D hD hj
        have hlt : sz - (k + 1) < cs.toArray.zipIdx.toList.length := by simp; omega
        rw [List.drop_eq_getElem_cons hlt, List.foldl_cons, show sz - (k + 1) + 1 = sz - k by omega]
        refine ih (by omega) _ (by simp [hD]) fun j hj' => ?_
        simp only [Array.getElem_toList, Array.getElem_zipIdx, Nat.zero_add, List.getElem_toArray]
        by_cases he : j = sz - (k + 1)
        · subst he
          rw [Array.getElem?_setIfInBounds_self_of_lt (by omega), List.getElem?_eq_getElem (by omega)]
        · rw [Array.getElem?_setIfInBounds_ne (fun e => he e.symm)]
          exact hj j (by omega)
    have := key sz (Nat.le_refl _) C hC (fun j hj => by omega)
    rw [Nat.sub_self, List.drop_zero] at this
    rw [← Array.foldl_toList]
    simpa using this
  unfold Oper.wp execOp
  have hu := run_underlying E.under w
  simp only [ho, Instr.buildSlice, Sem.run_bind, hu, hsi, hze, Result.andThen_ok, Nat.one_mul]
  rw [if_neg (show ¬ sz > 2 ^ 24 by omega), if_neg (show ¬ sz = 0 by omega)]
  simp only [Sem.run_bind, Sem.run_pure, hze, Result.andThen_ok, List.map_toArray, List.map_cons, List.map_nil]
  rw [hfill _ (by simp)]
  go_simp
  exact h _ _ M'

/-! ### an operation written out: a refine that does not fit fails by looking -/
variable {dst : Option Tmp} {t ty : TypeId} {x y : Operand} {pos : String} {after : Array Edge} {gd : Option (Nat × Bool)}
theorem on_load (h : (Oper.mk dst (.load t x) ty pos after gd).wp P a w K Q) : (Oper.mk dst (.load t x) ty pos after gd).wp P a w K Q := h
theorem on_store (h : (Oper.mk dst (.store t x y) ty pos after gd).wp P a w K Q) : (Oper.mk dst (.store t x y) ty pos after gd).wp P a w K Q := h
theorem on_box (h : (Oper.mk dst (.box t x) ty pos after gd).wp P a w K Q) : (Oper.mk dst (.box t x) ty pos after gd).wp P a w K Q := h
theorem on_alloc (h : (Oper.mk dst (.alloc t) ty pos after gd).wp P a w K Q) : (Oper.mk dst (.alloc t) ty pos after gd).wp P a w K Q := h
theorem on_single {n : Nat} {ps : Array (Nat × Operand)} (h : (Oper.mk dst (.buildSlice t n ps) ty pos after gd).wp P a w K Q) : (Oper.mk dst (.buildSlice t n ps) ty pos after gd).wp P a w K Q := h
theorem on_append {xs : Array Operand} {ts : Array TypeId} (h : (Oper.mk dst (.call ⟨.builtin .append, xs, ts⟩) ty pos after gd).wp P a w K Q) : (Oper.mk dst (.call ⟨.builtin .append, xs, ts⟩) ty pos after gd).wp P a w K Q := h
end
theorem pk {α : Prop} (h : α := by (repeat (first | exact Pick.head | apply Pick.tail)); done) : α := h
end Go.Proofs.YtmmaddmlfofgbaaDoor
/- Base, more: copying a whole slice into one that was just made. No program in sight. -/
namespace Go.Proofs.YtmmaddmlfofgbaaDoor
set_option linter.unusedSimpArgs false
set_option linter.unusedVariables false
open Go.RowKit

theorem ext_of_grown {w w' : World} (h : w.grownBy w' none) : Ext w w' := ⟨h.os, h.tape, h.output, h.size, fun k hk => h.block k hk (by simp)⟩

/-- `v = append(v, x)`, and where the row lies then -/
theorem wpList_push_at {P : Program} {ops : Array Oper} {rest : List Oper} {o : Oper} {a : Act} {Q : Exit → Act → World → Prop} {w : World} {t e : TypeId} {sz bytes : Nat} (E : ElemOf P t e sz bytes) (hgd : o.guard = none) (s x : Operand)
    (ho : o.op = .call { callee := .builtin .append, args := #[s, x], argTypes := #[t, t] })
    {α : Type} {f : α → List Value} {base : Nat} {A : Option Addr} {c n : Nat} {l : List α} (y : α) (hn : n = l.length) (hown : Own w base e f sz A c l) (hs : a.eval s = .slice A n c)
    (hx : a.eval x = .slice (some ⟨w.heap.size, 0, none⟩) 1 1) {cs : List Value} (hcs : cs = f y) (hl : (f y).length = sz) (h1 : ∀ u ∈ f y, u.oneCell' = true)
    (hsmall : (l.length + 1) * bytes ≤ 140737488355328) (hlen : l.length + 1 ≤ 140737488355328) (hbase : base ≤ w.heap.size)
    (h : ∀ A' c' w', Own w' base e f sz A' c' (l ++ [y]) → (w.alloc (.cells cs.toArray e)).grownBy w' (ownBlk A) → (∀ g, ownBlk A' = some g → ownBlk A = some g ∨ w.heap.size ≤ g) → wpList P ops Q rest (a.put o.dst (.slice A' (l.length + 1) c')) w') :
    wpList P ops Q (o :: rest) a (w.alloc (.cells cs.toArray e)) := by
  subst hn
  subst hcs
  obtain ⟨i, z, hi, hz, hsz, hby, hzs⟩ := E.info
  refine wpList_append_own_at _ hgd s x t ho base e i z sz bytes E.under hi hz hsz hby hzs E.pos (.slice A l.length c) l.length (l.flatMap f) hs (World.ownsRow.alloc hown _)
    ⟨w.heap.size, 0, none⟩ 1 1 (f y) hx (by rw [hl, Nat.one_mul]) (cells_new w (f y) e) h1 (by unfold maxLen; omega) hsmall (by simp; omega) ?_
  intro v' w' hown' hg _ hat
  obtain ⟨A', c', rfl⟩ := own_form hown'
  have hb : ∀ A : Option Addr, ∀ n c, Value.ownBlock (.slice A n c) = ownBlk A := fun A n c => by cases A <;> rfl
  refine h A' c' w' ?_ ?_ ?_
  · unfold Own
    rw [flatMap_snoc, show (l ++ [y]).length = l.length + 1 by simp]
    exact hown'
  · rw [← hb A l.length c]; exact hg
  · intro g e
    rw [hb, hb] at hat
    rcases hat with h1 | h1
    · exact .inl (by rw [← h1]; exact e)
    · rw [h1] at e
      cases e
      exact .inr (by simp)
end Go.Proofs.YtmmaddmlfofgbaaDoor
/- Appends and copies of lists within and between rows. No program in sight. -/
namespace Go.Proofs.YtmmaddmlfofgbaaDoor
set_option linter.unusedSimpArgs false
set_option linter.unusedVariables false
open Go.RowKit

theorem part_take {α β : Type} {f : α → List β} (l : List α) (k j : Nat) {u : β} (h : ((l.take k).flatMap f)[j]? = some u) : (l.flatMap f)[j]? = some u := by
  rw [← List.take_append_drop k l, List.flatMap_append, List.getElem?_append_left (List.getElem?_eq_some_iff.1 h).1]
  exact h
theorem part_drop {α β : Type} {f : α → List β} {sz : Nat} (hf : ∀ x, (f x).length = sz) (l : List α) {k : Nat} (hk : k ≤ l.length) (j : Nat) {u : β} (h : ((l.drop k).flatMap f)[j]? = some u) : (l.flatMap f)[k * sz + j]? = some u := by
  have hl : ((l.take k).flatMap f).length = k * sz := by rw [length_flatMap' hf, List.length_take, Nat.min_eq_left hk]
  rw [← List.take_append_drop k l, List.flatMap_append, List.getElem?_append_right (by omega), hl, Nat.add_sub_cancel_left]
  exact h
/-- `append(s, x...)`: x's elements lie at an address -/
theorem wpList_append_list {P : Program} {ops : Array Oper} {rest : List Oper} {o : Oper} {a : Act} {Q : Exit → Act → World → Prop} {w : World} {t e : TypeId} {sz bytes : Nat} (E : ElemOf P t e sz bytes) (hgd : o.guard = none) (s x : Operand)
    (ho : o.op = .call { callee := .builtin .append, args := #[s, x], argTypes := #[t, t] })
    {α : Type} {f : α → List Value} {base : Nat} {A : Option Addr} {c n : Nat} {l : List α} (news : List α) (hn : n = l.length) (hown : Own w base e f sz A c l) (hs : a.eval s = .slice A n c)
    {b off m cx : Nat} (hx : a.eval x = .slice (some ⟨b, off, none⟩) m cx) (hm : m = news.length) (hf : ∀ x, (f x).length = sz) (h1 : ∀ x, ∀ u ∈ f x, u.oneCell' = true)
    (hcell : ∀ j u, (news.flatMap f)[j]? = some u → w.cell? ⟨b, off + j, none⟩ = some u)
    (hsmall : (l.length + news.length) * bytes ≤ 140737488355328) (hlen : l.length + news.length ≤ 140737488355328) (hbase : base ≤ w.heap.size)
    (h : ∀ A' c' w', Own w' base e f sz A' c' (l ++ news) → w.grownBy w' (ownBlk A) → (∀ g, ownBlk A' = some g → ownBlk A = some g ∨ w.heap.size ≤ g) → wpList P ops Q rest (a.put o.dst (.slice A' (l.length + news.length) c')) w') :
    wpList P ops Q (o :: rest) a w := by
  subst hn
  subst hm
  obtain ⟨i, z, hi, hz, hsz, hby, hzs⟩ := E.info
  refine wpList_append_own_at _ hgd s x t ho base e i z sz bytes E.under hi hz hsz hby hzs E.pos (.slice A l.length c) l.length (l.flatMap f) hs hown
    ⟨b, off, none⟩ news.length cx (news.flatMap f) hx (length_flatMap' hf news) (fun j u hj => by rw [show ((⟨b, off, none⟩ : Addr).add j) = ⟨b, off + j, none⟩ by unfold Addr.add; split <;> simp_all]; exact hcell j u hj)
    (fun u hu => by obtain ⟨x, _, hx⟩ := List.mem_flatMap.1 hu; exact h1 x u hx) (by unfold maxLen; omega) hsmall hbase ?_
  intro v' w' hown' hg _ hat
  obtain ⟨A', c', rfl⟩ := own_form hown'
  have hb : ∀ A : Option Addr, ∀ n c, Value.ownBlock (.slice A n c) = ownBlk A := fun A n c => by cases A <;> rfl
  refine h A' c' w' ?_ ?_ ?_
  · unfold Own
    rw [List.flatMap_append, List.length_append]
    exact hown'
  · rw [← hb A l.length c]; exact hg
  · intro g e
    rw [hb, hb] at hat
    rcases hat with h1 | h1
    · exact .inl (by rw [← h1]; exact e)
    · rw [h1] at e
      cases e
      exact .inr (Nat.le_refl _)
theorem Own.lower {α : Type} {w : World} {base base' : Nat} {e : TypeId} {f : α → List Value} {sz : Nat} {A : Option Addr} {c : Nat} {l : List α} (h : Own w base e f sz A c l) (hb : base' ≤ base) : Own w base' e f sz A c l :=
  ⟨h.1, h.2.imp id fun ⟨g, cap, cur, h1, h2, h3⟩ => ⟨g, cap, cur, h1, Nat.le_trans hb h2, h3⟩⟩

theorem add_plain (b off j : Nat) : ((⟨b, off, none⟩ : Addr).add j) = ⟨b, off + j, none⟩ := by unfold Addr.add; split <;> simp_all
/-- `copy(d, s)` within a block of the call's own, at a step -/
theorem wp_copy_at {P : Program} {o : Oper} {a : Act} {K : Act → World → Prop} {Q : Exit → Act → World → Prop} {w : World} {t e : TypeId} {sz bytes : Nat} (E : ElemOf P t e sz bytes) (d s : Operand)
    (ho : o.op = .call { callee := .builtin .copy, args := #[d, s], argTypes := #[t, t] }) {g off dn dc : Nat} (hd : a.eval d = .slice (some ⟨g, off, none⟩) dn dc) {b soff sn sc : Nat} (hs : a.eval s = .slice (some ⟨b, soff, none⟩) sn sc)
    {xs : List Value} {n : Nat} (hn : Nat.min sn dn = n) (hx : xs.length = n * sz) (hsrc : ∀ j u, xs[j]? = some u → w.cell? ⟨b, soff + j, none⟩ = some u)
    {cur : Array Value} (hg : w.heap[g]? = some (.cells cur e (0, 0))) (hfit : off + xs.length ≤ cur.size) (h1 : ∀ u ∈ xs, u.oneCell' = true)
    (h : ∀ w', w'.heap[g]? = some (.cells (cur.toList.take off ++ xs ++ cur.toList.drop (off + xs.length)).toArray e (0, 0)) → w.grownBy w' (some g) → K (a.put o.dst (goInt n)) w') : o.wp P a w K Q := by
  obtain ⟨i, z, hi', hz, hsz, hby, hzs⟩ := E.info
  have hl := run_loadCells_list (P := P) w ⟨b, soff, none⟩ xs (fun j u hj => by rw [add_plain]; exact hsrc j u hj)
  have hst := run_storeCells_at P g off e xs 0 cur w hg (by simpa using hfit) h1
  simp only [Nat.add_zero] at hst
  have hrun : (Builtin.copy_ #[t, t] o.type #[.slice (some ⟨g, off, none⟩) dn dc, .slice (some ⟨b, soff, none⟩) sn sc]).run P w = .ok (goInt n) (w.setRow g (cur.toList.take off ++ xs ++ cur.toList.drop (off + xs.length)).toArray) := by
    simp [Builtin.copy_, run_underlying E.under, Builtin.lenOf, sizeOf, typeInfo, hi', hsz, Builtin.firstCells, hn, ← hx, hl, hst]
  unfold Oper.wp
  simp only [List.append_assoc] at h ⊢
  simp [execOp, ho, resolve, invoke, builtin, hd, hs, hrun, Result.andThen]
  exact h _ (setRow_heap w g cur _ e _ hg) ⟨rfl, rfl, rfl, by simp, fun k _ hk => setRow_other w g k _ (fun e => hk (by rw [e]))⟩
end Go.Proofs.YtmmaddmlfofgbaaDoor
/- Appends to rows of a call's own, and returns, over memory as a list of what lies in it. No program in sight. -/
namespace Go.Proofs.YtmmaddmlfofgbaaDoor
set_option linter.unusedSimpArgs false
set_option linter.unusedVariables false
open Go.RowKit Res

section
variable {P : Program} {S : Nat → Prop} {w0 w : World} {l : List Res} {o : Oper} {a : Act} {K : Act → World → Prop} {Q : Exit → Act → World → Prop}

theorem ownBlock_slice (A : Option Addr) (n c : Nat) : Value.ownBlock (.slice A n c) = ownBlk A := by cases A <;> rfl
/-- `v = append(v, x...)`: whatever row x is -/
theorem wp_appends (M : Mem S w0 l w) {t e : TypeId} {sz bytes : Nat} (E : ElemOf P t e sz bytes) (s x : Operand) (ho : o.op = .call { callee := .builtin .append, args := #[s, x], argTypes := #[t, t] })
    {α : Type} {f : α → List Value} {A : Option Addr} {c n : Nat} {xs : List α} {F : Res → List Res} (hs : a.eval s = .slice A n c) (p : Pick l (ow e f sz A c xs) F) (hn : n = xs.length) (ys : List α)
    {B : Option Addr} {m cx lo hi : Nat} (hx : a.eval x = .slice B m cx) (hm : m = ys.length) (hrow : Row w lo hi sz B m (ys.flatMap f)) (hnil : B = none → cx = 0) (hf : ∀ x, (f x).length = sz) (h1 : ∀ x, ∀ u ∈ f x, u.oneCell' = true)
    (hsmall : (xs.length + ys.length) * bytes ≤ 140737488355328) (hlen : xs.length + ys.length ≤ 140737488355328)
    (h : ∀ A' c' w', Mem S w0 (F (ow e f sz A' c' (xs ++ ys))) w' → K (a.put o.dst (.slice A' (xs.length + ys.length) c')) w') : o.wp P a w K Q := by
  subst hn hm
  obtain ⟨i, z, hi, hz, hsz, hby, hzs⟩ := E.info
  have hown := M.own p
  cases B with
  | none =>
    have h0 : ys = [] := by
      cases ys with
      | nil => rfl
      | cons y ys =>
        obtain ⟨b, off, e, _⟩ := hrow.mem (by simp)
        cases e
    subst h0
    rw [hnil rfl] at hx
    have hrun := run_append_owned_none (P := P) (w := w) 0 t o.type e i sz E.under hi (.slice A xs.length c) xs.length (xs.flatMap f) hown
    unfold Oper.wp
    simp [execOp, ho, resolve, invoke, builtin, hs, hx, hrun, Result.andThen]
    refine h A c w ?_
    rw [List.append_nil]
    exact M.put p (Fr.refl w) _ hown (fun _ h => .inl h)
  | some ad =>
    obtain ⟨v', w', hr, h2, h3, h4, h5⟩ := run_append_own_at (P := P) (w := w) (ty := o.type) 0 t e i z sz bytes E.under hi hz hsz hby hzs E.pos (.slice A xs.length c) xs.length (xs.flatMap f) hown ad ys.length cx (ys.flatMap f)
      (length_flatMap' hf ys) (fun j u hj => by
        have hy : 0 < ys.length := by
          cases ys with
          | nil => simp at hj
          | cons y ys => simp
        obtain ⟨b, off, e, _, _, hc⟩ := hrow.mem hy
        injection e with e
        subst e
        rw [add_plain]
        exact hc j u hj) (fun u hu => by obtain ⟨x, _, hx⟩ := List.mem_flatMap.1 hu; exact h1 x u hx) (by unfold maxLen; omega) hsmall (Nat.zero_le _)
    unfold Oper.wp execOp
    simp only [ho, resolve, invoke, builtin, Sem.run_bind, Sem.run_pure, Result.andThen_ok, List.map_toArray, List.map_cons, List.map_nil, hs, hx, hr]
    obtain ⟨A', c', rfl⟩ := own_form h2
    rw [ownBlock_slice] at h3 h5
    rw [ownBlock_slice] at h5
    refine h A' c' w' (M.put p (Fr.of_grown h3 fun g e _ hg => hg e) _ ?_ fun b hb => ?_)
    · show Own w' 0 e f sz A' c' (xs ++ ys)
      unfold Own
      rw [List.flatMap_append, List.length_append]
      exact h2
    · rcases h5 with h5 | h5
      · exact .inl (by show ownBlk A = some b; rw [← h5]; exact hb)
      · refine .inr ?_
        have hb' : ownBlk A' = some b := hb
        rw [h5] at hb'
        injection hb' with hb'
        omega
end

theorem _root_.Go.Proofs.YtmmaddmlfofgbaaDoor.Own.raise {α : Type} {w : World} {base base' : Nat} {e : TypeId} {f : α → List Value} {sz : Nat} {A : Option Addr} {c : Nat} {l : List α} (h : Own w base e f sz A c l) (hb : ∀ g, ownBlk A = some g → base' ≤ g) : Own w base' e f sz A c l := by
  obtain ⟨h1, h2⟩ := h
  refine ⟨h1, ?_⟩
  rcases h2 with h2 | ⟨g, cap, cur, hv, hg, r⟩
  · exact .inl h2
  · refine .inr ⟨g, cap, cur, hv, hb g ?_, r⟩
    injection hv with hv
    rw [hv]; rfl
/-- what a call hands out lies in new blocks -/
theorem Mem.own_new {α : Type} {w w' : World} {l : List Res} {e : TypeId} {f : α → List Value} {sz : Nat} {A : Option Addr} {c : Nat} {xs : List α} {F : Res → List Res} (M : Mem (· < w.heap.size) w l w') (p : Pick l (ow e f sz A c xs) F) : Own w' w.heap.size e f sz A c xs :=
  (M.own p).raise fun g hg => Nat.le_of_not_lt (M.out _ p.mem g hg)
/-! ## returns -/
def Out (P : Program) (tmps : Array Value) (w : World) : ResultVar → Value → Prop
  | .tmp t, v => tmps.getD t undef = v
  | .cell a t, v => ∃ p, tmps.getD a undef = .pointer (some p) ∧ (loadVar t p).run P w = .ok v w
section
variable {P : Program} {S : Nat → Prop} {w0 w : World} {l : List Res} {fn : Func} {R : Ending → World → Prop} {a : Act}
theorem Out.tmp {t : Nat} {v : Value} {tmps : Array Value} (h : tmps.getD t undef = v) : Out P tmps w (.tmp t) v := h
theorem Out.one (M : Mem S w0 l w) {tmps : Array Value} {t : Nat} {ty u : TypeId} {g : Nat} {cs : List Value} {f : Res → List Res} (h : tmps.getD t undef = .pointer (some ⟨g, 0, none⟩)) (p : Pick l (bx g u cs) f) (hn : OneT P ty) {v : Value} (hv : cs[0]? = some v) :
    Out P tmps w (.cell t ty) v := by
  have hc : w.cell? ⟨g, 0, none⟩ = some v := by rw [(M.box p).cell]; simpa using hv
  exact ⟨_, h, run_loadVar_one hn hc⟩
theorem Out.row (M : Mem S w0 l w) {tmps : Array Value} {t : Nat} {ty u : TypeId} {g : Nat} {cs : List Value} {f : Res → List Res} (h : tmps.getD t undef = .pointer (some ⟨g, 0, none⟩)) (p : Pick l (bx g u cs) f) (hn : RowT P ty cs.length) :
    Out P tmps w (.cell t ty) (.agg cs.toArray) := ⟨_, h, run_loadVar_box hn (M.box p)⟩
theorem ret_m1 {r0 : ResultVar} {v0 : Value} (hres : fn.results = #[r0]) (h0 : Out P a.tmps w r0 v0) (hd : a.defers = []) (h : R (.returned v0) w) : bodyPost P fn R .ret a w := by
  refine bodyPost_ret ?_ hd h
  cases r0 <;> simp [Out] at h0 <;> (try obtain ⟨p0, e0, h0⟩ := h0) <;> simp [results, hres, Sem.run_bind, asAddr, *]
theorem ret_m2 {r0 r1 : ResultVar} {v0 v1 : Value} (hres : fn.results = #[r0, r1]) (h0 : Out P a.tmps w r0 v0) (h1 : Out P a.tmps w r1 v1) (hd : a.defers = []) (h : R (.returned (.tuple #[v0, v1])) w) : bodyPost P fn R .ret a w := by
  refine bodyPost_ret ?_ hd h
  cases r0 <;> cases r1 <;> simp [Out] at h0 h1 <;> (try obtain ⟨p0, e0, h0⟩ := h0) <;> (try obtain ⟨p1, e1, h1⟩ := h1) <;> simp [results, hres, Sem.run_bind, asAddr, *]
end
end Go.Proofs.YtmmaddmlfofgbaaDoor
/- A part of memory handed to a call and taken back. No program in sight. -/
namespace Go.Proofs.YtmmaddmlfofgbaaDoor
set_option linter.unusedSimpArgs false
set_option linter.unusedVariables false
open Go.RowKit Res

inductive Take : List Res → Res → List Res → Prop where
  | head {c : Res} {l : List Res} : Take (c :: l) c l
  | tail {b c : Res} {l r : List Res} : Take l c r → Take (b :: l) c (b :: r)
inductive Takes : List Res → List Res → List Res → Prop where
  | nil {l : List Res} : Takes l [] l
  | cons {l m rs rest : List Res} {r : Res} : Take l r m → Takes m rs rest → Takes l (r :: rs) rest
theorem Take.perm {l r : List Res} {c : Res} (h : Take l c r) : l.Perm (c :: r) := by
  induction h with
  | head => exact List.Perm.refl _
  | tail _ ih => exact (ih.cons _).trans (List.Perm.swap _ _ _)
theorem Takes.perm {l rs rest : List Res} (h : Takes l rs rest) : l.Perm (rs ++ rest) := by
  induction h with
  | nil => exact List.Perm.refl _
  | cons t _ ih => exact t.perm.trans (ih.cons _)
/-- the blocks of w that none of these holds -/
def OutOf (rs : List Res) (w : World) (b : Nat) : Prop := b < w.heap.size ∧ ∀ r ∈ rs, ¬ r.fp b
namespace Mem
variable {S : Nat → Prop} {w0 w w' : World} {l rs rest rs' : List Res}
theorem perm (M : Mem S w0 l w) (h : l.Perm rs) : Mem S w0 rs w :=
  ⟨M.fr, M.lo, fun r hr => M.all r (h.mem_iff.2 hr), fun r hr => M.out r (h.mem_iff.2 hr), M.apart.perm h (fun hab b hb ha => hab b ha hb)⟩
theorem app (M : Mem S w0 (rs ++ rest) w) : Mem S w0 rs w :=
  ⟨M.fr, M.lo, fun r hr => M.all r (List.mem_append_left _ hr), fun r hr => M.out r (List.mem_append_left _ hr), (List.pairwise_append.1 M.apart).1⟩
theorem sub (M : Mem S w0 l w) (t : Takes l rs rest) : Mem S w0 rs w := (M.perm t.perm).app
theorem only (M : Mem S w0 l w) (t : Takes l rs rest) : Mem (OutOf rs w) w rs w :=
  ⟨Fr.refl w, fun _ h => h.1, (M.sub t).all, fun r hr b hb h => h.2 r hr hb, (M.sub t).apart⟩
end Mem
theorem tk {α : Prop} (h : α := by (repeat (first | exact Takes.nil | exact Take.head | apply Take.tail | apply Takes.cons)); done) : α := h
end Go.Proofs.YtmmaddmlfofgbaaDoor
/- Regions whose order is left open, over memory as a list of what lies in it: first what only reads, in any order, then the rest in one row. No program in sight. -/
namespace Go.Proofs.YtmmaddmlfofgbaaDoor
set_option linter.unusedSimpArgs false
set_option linter.unusedVariables false
open Go.RowKit Res

/-- as fastK, in a region that only reads -/
theorem fastS (P' : Program) {P : Program} {w : World} {ops : Array Oper} {rest : List Oper} {Qs : Act → Prop} {a : Act} {d : Tmp} {dst : Option Tmp} {v : Value} (hd : dst = some d)
    (h : (Oper.mk (some d) (.move (.const v)) 0 "" #[] none).wp P' a w (fun a' _ => wpStill P ops w Qs rest a') (fun _ _ _ => True)) : wpStill P ops w Qs rest (a.put dst v) := by subst hd; exact h
theorem fastSN {P : Program} {w : World} {ops : Array Oper} {rest : List Oper} {Qs : Act → Prop} {a : Act} {dst : Option Tmp} {v : Value} (hd : dst = none) (h : wpStill P ops w Qs rest a) : wpStill P ops w Qs rest (a.put dst v) := by subst hd; exact h

section
variable {P : Program} {S : Nat → Prop} {w0 w : World} {l : List Res} {Q : Exit → Act → World → Prop} {a : Act}
theorem wp_region_mem0 (M : Mem S w0 l w) {id : Nat} {L : List Oper} (hm : P.follows .mixedOrders = true) (hB : Region.lexB .any L.toArray = true)
    (h : ∀ w', Mem S w0 l w' → wpStill P L.toArray w' (fun a' => Q .normal a' w') L a) : (Code.region id L.toArray true).wp P Q a w :=
  wp_region_still_lit hm hB (h w.drew M.drew)
/-- at a region, by its number -/
theorem on_region (id : Nat) {ops : Array Oper} (h : (Code.region id ops true).wp P Q a w) : (Code.region id ops true).wp P Q a w := h
variable {ops : Array Oper} {rest : List Oper} {Qs : Act → Prop} {dst : Option Tmp} {t ty : TypeId} {x : Operand} {pos : String} {after : Array Edge}
theorem st_of (o : Oper) (hg : o.guard = none) (v : Value) (hr : (execOp a.eval o).run P w = .ok (.value v) w) (h : wpStill P ops w Qs rest (a.put o.dst v)) : wpStill P ops w Qs (o :: rest) a := by
  unfold wpStill Oper.still
  rw [if_pos (by unfold Region.wanted; rw [hg]), hr, Oper.stillUpon_value]
  exact h
theorem st_load (h : wpStill P ops w Qs (Oper.mk dst (.load t x) ty pos after none :: rest) a) : wpStill P ops w Qs (Oper.mk dst (.load t x) ty pos after none :: rest) a := h
theorem st_load1 (M : Mem S w0 l w) (g i : Nat) (hx : a.eval x = .pointer (some ⟨g, i, none⟩)) {u : TypeId} {cs : List Value} {f : Res → List Res}
    (p : Pick l (bx g u cs) f) (hn : OneT P t) (v : Value) (hv : cs[i]? = some v) (h : wpStill P ops w Qs rest (a.put dst v)) : wpStill P ops w Qs (Oper.mk dst (.load t x) ty pos after none :: rest) a :=
  st_of _ rfl v (ex_load1 t x rfl ⟨g, i, none⟩ hx hn v (by rw [(M.box p).cell]; simpa using hv)) h
theorem st_loadN (M : Mem S w0 l w) (g : Nat) (hx : a.eval x = .pointer (some ⟨g, 0, none⟩)) {u : TypeId} {cs : List Value} {f : Res → List Res}
    (p : Pick l (bx g u cs) f) (hn : RowT P t cs.length) (h : wpStill P ops w Qs rest (a.put dst (.agg cs.toArray))) : wpStill P ops w Qs (Oper.mk dst (.load t x) ty pos after none :: rest) a :=
  st_of _ rfl (.agg cs.toArray) (by
    unfold execOp
    simp only [hx, Instr.loadAt, Instr.sureAddr, Sem.run_bind, Sem.run_pure, Result.andThen_ok, run_loadVar_box hn (M.box p)]) h
end
end Go.Proofs.YtmmaddmlfofgbaaDoor
/- Reads of what was there ahead of the call. No program in sight. -/
namespace Go.Proofs.YtmmaddmlfofgbaaDoor
set_option linter.unusedSimpArgs false
set_option linter.unusedVariables false
open Go.RowKit Res

section
variable {P : Program} {S : Nat → Prop} {w0 w : World} {l : List Res} {o : Oper} {a : Act} {K : Act → World → Prop} {Q : Exit → Act → World → Prop}
theorem Mem.far (M : Mem (· < w0.heap.size) w0 l w) {p : Addr} {v : Value} (hc : w0.cell? p = some v) : w.cell? p = some v :=
  (World.cell?_of_block (w := w0) (a := p) (M.ext_of.block p.block (block_lt_of_cell hc))).trans hc
theorem wp_load1C (t : TypeId) (x : Operand) (ho : o.op = .load t x) (g i : Nat) (hx : a.eval x = .pointer (some ⟨g, i, none⟩)) (v : Value) (hv : w.cell? ⟨g, i, none⟩ = some v) (hn : OneT P t) (h : K (a.put o.dst v) w) : o.wp P a w K Q := by
  unfold Oper.wp execOp
  simp only [ho, hx, Instr.loadAt, Instr.sureAddr, Sem.run_bind, Sem.run_pure, Result.andThen_ok, run_loadVar_one hn hv]
  exact h
theorem wp_loadNC (t : TypeId) (x : Operand) (ho : o.op = .load t x) (g i : Nat) (hx : a.eval x = .pointer (some ⟨g, i, none⟩)) (cs : List Value) (hc : ∀ j u, cs[j]? = some u → w.cell? ⟨g, i + j, none⟩ = some u) (hn : RowT P t cs.length) (h : K (a.put o.dst (.agg cs.toArray)) w) : o.wp P a w K Q := by
  unfold Oper.wp execOp
  simp only [ho, hx, Instr.loadAt, Instr.sureAddr, Sem.run_bind, Sem.run_pure, Result.andThen_ok, run_loadVar_cells hn hc]
  exact h
variable {ops : Array Oper} {rest : List Oper} {Qs : Act → Prop} {dst : Option Tmp} {t ty : TypeId} {x : Operand} {pos : String} {after : Array Edge}
theorem st_load1C (g i : Nat) (hx : a.eval x = .pointer (some ⟨g, i, none⟩)) (v : Value) (hv : w.cell? ⟨g, i, none⟩ = some v) (hn : OneT P t) (h : wpStill P ops w Qs rest (a.put dst v)) : wpStill P ops w Qs (Oper.mk dst (.load t x) ty pos after none :: rest) a :=
  st_of _ rfl v (ex_load1 t x rfl ⟨g, i, none⟩ hx hn v hv) h
end
end Go.Proofs.YtmmaddmlfofgbaaDoor
/- Regions whose order is left open, over memory as a list of what lies in it: one walk of one schedule; what is read there is not written there. No program in sight. -/
namespace Go.Proofs.YtmmaddmlfofgbaaDoor
set_option linter.unusedSimpArgs false
set_option linter.unusedVariables false
open Go.RowKit Res

/-- what lies at the addresses that these slots hold stays -/
def keepR (a : Act) (ss : List Nat) (w w' : World) : Prop := w.heap.size ≤ w'.heap.size ∧ ∀ s ∈ ss, ∀ g i, a.eval (.tmp s) = .pointer (some ⟨g, i, none⟩) → ∀ o v, w.cell? ⟨g, o, none⟩ = some v → w'.cell? ⟨g, o, none⟩ = some v
def OffB (a : Act) (ss : List Nat) (g : Nat) : Prop := ∀ s ∈ ss, ∀ g' i, a.eval (.tmp s) = .pointer (some ⟨g', i, none⟩) → g' ≠ g
theorem OffB.nil {a : Act} {g : Nat} : OffB a [] g := fun _ h => by cases h
theorem OffB.cons {a : Act} {s : Nat} {ss : List Nat} {g g' i : Nat} (hb : a.eval (.tmp s) = .pointer (some ⟨g', i, none⟩)) (hne : g' ≠ g) (h : OffB a ss g) : OffB a (s :: ss) g := fun t ht k j hk => by
  rcases List.mem_cons.1 ht with rfl | ht
  · rw [hb] at hk
    injection hk with hk
    injection hk with hk
    injection hk with hk
    rw [← hk]; exact hne
  · exact h t ht k j hk
namespace keepR
variable {a : Act} {ss : List Nat} {w w' : World}
theorem refl (w : World) : keepR a ss w w := ⟨Nat.le_refl _, fun _ _ _ _ _ _ _ h => h⟩
theorem trans (x y z : World) (h : keepR a ss x y) (k : keepR a ss y z) : keepR a ss x z := ⟨Nat.le_trans h.1 k.1, fun s hs g i hb o v hv => k.2 s hs g i hb o v (h.2 s hs g i hb o v hv)⟩
theorem ext (h : Ext w w') : keepR a ss w w' := ⟨h.size, fun s _ g i _ o v hv => (h.cell (p := ⟨g, o, none⟩) (block_lt_of_cell hv)).trans hv⟩
theorem fr {g : Nat} (h : Fr (· ≠ g) w w') (ho : OffB a ss g) : keepR a ss w w' :=
  ⟨h.size, fun s hs g' i hb o v hv => (World.cell?_of_block (w := w) (a := ⟨g', o, none⟩) (h.block g' (block_lt_of_cell hv) (ho s hs g' i hb))).trans hv⟩
end keepR
section
variable {P : Program} {S : Nat → Prop} {w0 w : World} {l : List Res} {Q : Exit → Act → World → Prop} {a a0 : Act} {o : Oper} {K : Act → World → Prop}
theorem Mem.ne2 (M : Mem S w0 l w) {g g' : Nat} {u u' : TypeId} {cs cs' : List Value} {rest : List Res} (t : Takes l [bx g u cs, bx g' u' cs'] rest) : g ≠ g' := fun e =>
  (List.pairwise_cons.1 (M.sub t).apart).1 (bx g' u' cs') (by simp) g rfl e
variable {L : List Oper} {i m : Nat} {sch : List (Nat × Bool)} {ss : List Nat} {dst : Option Tmp} {t ty : TypeId} {x : Operand} {pos : String} {after : Array Edge}
end
end Go.Proofs.YtmmaddmlfofgbaaDoor
/- A slice that is written out, and loops that are unrolled. No program in sight. -/
namespace Go.Proofs.YtmmaddmlfofgbaaDoor
set_option linter.unusedSimpArgs false
set_option linter.unusedVariables false
open Go.RowKit Res

/-- the parts of a slice that is written out, in order, from place k on, each of sz cells -/
inductive Parts (sz : Nat) : Nat → List (Nat × Value) → List Value → Prop where
  | nil {k : Nat} : Parts sz k [] []
  | cons {k : Nat} {v : Value} {cs : List Value} {ps : List (Nat × Value)} {C : List Value} (h : CellsOf v cs) (hl : cs.length = sz) (hr : Parts sz (k + 1) ps C) : Parts sz k ((k, v) :: ps) (cs ++ C)
theorem Parts.len {sz : Nat} : ∀ {k : Nat} {ps : List (Nat × Value)} {C : List Value}, Parts sz k ps C → C.length = ps.length * sz
  | _, _, _, .nil => by simp
  | _, _, _, .cons _ hl hr => by rw [List.length_append, hl, hr.len, List.length_cons, Nat.succ_mul, Nat.add_comm]
section
variable {P : Program} {S : Nat → Prop} {w0 w : World} {l : List Res} {o : Oper} {a : Act} {K : Act → World → Prop} {Q : Exit → Act → World → Prop}
end
end Go.Proofs.YtmmaddmlfofgbaaDoor
/- Regions whose order is left open, with calls and stores, where what was there ahead of the call is read as well. No program in sight. -/
namespace Go.Proofs.YtmmaddmlfofgbaaDoor
set_option linter.unusedSimpArgs false
set_option linter.unusedVariables false
open Go.RowKit Res

/-- as keepR, and the blocks below B stay -/
def keepX (B : Nat) (a : Act) (ss : List Nat) (w w' : World) : Prop := keepR a ss w w' ∧ ∀ b, b < B → w'.heap[b]? = w.heap[b]?
namespace keepX
variable {B : Nat} {a : Act} {ss : List Nat} {w0 w w' : World} {S : Nat → Prop} {l : List Res}
theorem refl (w : World) : keepX B a ss w w := ⟨keepR.refl w, fun _ _ => rfl⟩
theorem trans (x y z : World) (h : keepX B a ss x y) (k : keepX B a ss y z) : keepX B a ss x z := ⟨keepR.trans x y z h.1 k.1, fun b hb => (k.2 b hb).trans (h.2 b hb)⟩
theorem ext (M : Mem S w0 l w) (h : Ext w w') : keepX w0.heap.size a ss w w' := ⟨keepR.ext h, fun b hb => h.block b (Nat.lt_of_lt_of_le hb M.fr.size)⟩
theorem fr {g : Nat} {u : TypeId} {cs : List Value} {f : Res → List Res} (M : Mem (· < w0.heap.size) w0 l w) (p : Pick l (bx g u cs) f) (h : Fr (· ≠ g) w w') (ho : OffB a ss g) : keepX w0.heap.size a ss w w' :=
  ⟨keepR.fr h ho, fun b hb => h.block b (Nat.lt_of_lt_of_le hb M.fr.size) (fun e => M.out _ p.mem g rfl (e ▸ hb))⟩
end keepX
section
variable {P : Program} {S : Nat → Prop} {w0 w : World} {l : List Res} {Q : Exit → Act → World → Prop} {a a0 : Act} {o : Oper} {B : Nat}
variable {L : List Oper} {i m : Nat} {sch : List (Nat × Bool)} {ss : List Nat} {dst : Option Tmp} {t ty : TypeId} {x : Operand} {pos : String} {after : Array Edge}
variable {ops : Array Oper} {rest : List Oper} {Qs : Act → Prop} {op : Op} {gd : Nat × Bool}
theorem st_g (h : wpStill P ops w Qs (Oper.mk dst op ty pos after (some gd) :: rest) a) : wpStill P ops w Qs (Oper.mk dst op ty pos after (some gd) :: rest) a := h
theorem st_off (hg : Region.wanted (Oper.mk dst op ty pos after (some gd)) (yielded ops a.tmps) = false) (h : wpStill P ops w Qs rest (a.put dst undef)) : wpStill P ops w Qs (Oper.mk dst op ty pos after (some gd) :: rest) a := by
  unfold wpStill
  rw [if_neg (by rw [hg]; simp)]
  exact h
end
end Go.Proofs.YtmmaddmlfofgbaaDoor
/- Guarded operations, moves and picks of a region that is walked in one row: by laws, not by simp. No program in sight. -/
namespace Go.Proofs.YtmmaddmlfofgbaaDoor
set_option linter.unusedSimpArgs false
set_option linter.unusedVariables false
open Go.RowKit Res

/-- operations that yield a value and nothing else -/
def valueOp2 : Op → Bool
  | .move _ | .assign _ | .pick .. | .binOp .. | .unOp .. | .convert .. | .fieldAddr .. | .field .. | .indexAddr .. | .index .. | .extract .. | .slice .. | .load .. => true
  | _ => false
theorem value2_of {s : Sem Value} {P : Program} {w w' : World} {n : Next} (h : ((do pure (.value (← s)) : Sem Next)).run P w = .ok n w') : ∃ v, n = .value v := by
  rw [Sem.run_bind] at h
  cases hs : s.run P w with
  | ok v w1 => rw [hs] at h; simp only [Result.andThen_ok, Sem.run_pure] at h; injection h with h1 h2; exact ⟨v, h1.symm⟩
  | halt x w1 => rw [hs] at h; simp [Result.andThen] at h
theorem pick_of {s : Sem Bool} {f : Bool → Value} {P : Program} {w w' : World} {n : Next} (h : ((do pure (.value (f (← s))) : Sem Next)).run P w = .ok n w') : ∃ v, n = .value v := by
  rw [Sem.run_bind] at h
  cases hs : s.run P w with
  | ok v w1 => rw [hs] at h; simp only [Result.andThen_ok, Sem.run_pure] at h; injection h with h1 h2; exact ⟨_, h1.symm⟩
  | halt x w1 => rw [hs] at h; simp [Result.andThen] at h
theorem valueOp2_ok {o : Oper} (hq : valueOp2 o.op = true) {ρ : Operand → Value} {P : Program} {w w' : World} {n : Next} (h : (execOp ρ o).run P w = .ok n w') : ∃ v, n = .value v := by
  unfold execOp at h
  obtain ⟨dst, op, ty, pos, after, gd⟩ := o
  cases op <;> first
    | (simp [valueOp2] at hq; done)
    | (exact value2_of h)
    | (simp only [Sem.run_pure] at h; injection h with h1 h2; exact ⟨_, h1.symm⟩)
    | (exact pick_of (f := fun b => if b = true then ρ _ else ρ _) h)
theorem st_quiet2 {P : Program} {w : World} {ops : Array Oper} {rest : List Oper} {Qs : Act → Prop} {a : Act} {o : Oper} (hq : valueOp2 o.op = true) (hg : o.guard = none)
    (h : ∀ K : Act → World → Prop, (∀ a', wpStill P ops w Qs rest a' → K a' w) → o.wp P a w K (fun _ _ _ => False)) : wpStill P ops w Qs (o :: rest) a := by
  have h1 := h (fun a' w' => w' = w ∧ wpStill P ops w Qs rest a') (fun a' h => ⟨rfl, h⟩)
  unfold wpStill Oper.still
  rw [if_pos (by unfold Region.wanted; rw [hg])]
  unfold Oper.wp at h1
  generalize hr : (execOp a.eval o).run P w = r at h1 ⊢
  cases r with
  | ok n w' =>
    obtain ⟨v, rfl⟩ := valueOp2_ok hq hr
    exact h1
  | halt x w' => cases x <;> exact h1.elim
/-- a guard that says yes, in a region that only reads: `c` is there so that the kit's own look at the slot decides whether this law is meant -/
theorem st_on2 {P : Program} {w : World} {ops : Array Oper} {rest : List Oper} {Qs : Act → Prop} {a : Act} {dst : Option Tmp} {op : Op} {ty : TypeId} {pos : String} {after : Array Edge} {gd : Nat × Bool}
    (hg : Region.wanted (Oper.mk dst op ty pos after (some gd)) (yielded ops a.tmps) = true)
    (_c : ∀ Q' : Exit → Act → World → Prop, (∀ a', Q' .normal a' w) → wpList P ops Q' [Oper.mk none (.move (.const undef)) ty pos after (some gd)] a w)
    (h : wpStill P ops w Qs (Oper.mk dst op ty pos after none :: rest) a) : wpStill P ops w Qs (Oper.mk dst op ty pos after (some gd) :: rest) a := by
  unfold wpStill at h ⊢
  rw [if_pos (by unfold Region.wanted; rfl)] at h
  rw [if_pos hg]
  exact h
section
variable {P : Program} {w : World} {Q : Exit → Act → World → Prop} {a : Act} {ops : Array Oper} {rest : List Oper} {dst : Option Tmp} {ty : TypeId} {op : Op} {x y z : Operand} {pos : String} {after : Array Edge} {gd : Nat × Bool}
theorem wl_g (h : wpList P ops Q (Oper.mk dst op ty pos after (some gd) :: rest) a w) : wpList P ops Q (Oper.mk dst op ty pos after (some gd) :: rest) a w := h
theorem wl_off (hg : Region.wanted (Oper.mk dst op ty pos after (some gd)) (yielded ops a.tmps) = false) (h : wpList P ops Q rest (a.put dst undef) w) : wpList P ops Q (Oper.mk dst op ty pos after (some gd) :: rest) a w := by
  unfold wpList
  rw [if_neg (by rw [hg]; simp)]
  exact h
variable {Qs : Act → Prop}
end
end Go.Proofs.YtmmaddmlfofgbaaDoor
/- A region whose order is left open, where two things that do something may come up at once: both orders are walked. No program in sight. -/
namespace Go.Proofs.YtmmaddmlfofgbaaDoor
set_option linter.unusedSimpArgs false
set_option linter.unusedVariables false
open Go.RowKit

inductive Tr where
  | done : Tr
  | q : Nat → Tr → Tr
  | e : Nat → Tr → Tr
  | fork : Nat → Nat → Tr → Tr → Tr
def Tr.len : Tr → Nat
  | .done => 0
  | .q _ t => t.len + 1
  | .e _ t => t.len + 1
  | .fork _ _ a _ => a.len + 1
section
variable {P : Program} {ops : Array Oper} {Q : Exit → Act → World → Prop} {md : Region.Mode} {R : World → World → Prop} {m : Nat}

def wpTr (P : Program) (ops : Array Oper) (Q : Exit → Act → World → Prop) (R : World → World → Prop) (m : Nat) : Tr → Act → World → Prop
  | .done, a, w => Q .normal a w
  | .q i t, a, w => ∃ oi v, ops[i]? = some oi ∧ YieldsIf P ops (R w) oi v a ∧ wpTr P ops Q R m t (a.put oi.dst v) w
  | .e i t, a, w => wpOp P ops Q i (fun a' w' => (i ≠ m → R w w') ∧ wpTr P ops Q R m t a' w') a w
  | .fork i j s t, a, w => wpOp P ops Q i (fun a' w' => (i ≠ m → R w w') ∧ wpTr P ops Q R m s a' w') a w ∧ wpOp P ops Q j (fun a' w' => (j ≠ m → R w w') ∧ wpTr P ops Q R m t a' w') a w
def trOk (md : Region.Mode) (ops : Array Oper) (m : Nat) : Tr → Array Bool → Bool
  | .done, listed => (Region.ready md ops listed).isEmpty
  | .q i t, listed => i != m && (Region.ready md ops listed).contains i && Region.free md ops listed i && trOk md ops m t (listed.setIfInBounds i true)
  | .e i t, listed => decide (Region.ready md ops listed = [i]) && trOk md ops m t (listed.setIfInBounds i true)
  | .fork i j s t, listed => decide (Region.ready md ops listed = [i, j]) && decide (s.len = t.len) && trOk md ops m s (listed.setIfInBounds i true) && trOk md ops m t (listed.setIfInBounds j true)

theorem wpAnyR_of_tr (hrefl : ∀ w, R w w) (htrans : ∀ a b c, R a b → R b c → R a c) (hlast : lastB md ops m = true) (hs : Region.noSelect ops = true)
    (hQ : ∀ c a d v w, Q (.panic c) (Act.put a d v) w → Q (.panic c) a w) : ∀ (t : Tr) (listed : Array Bool) (a : Act) (w : World), ClosedL md ops listed → trOk md ops m t listed = true →
    wpTr P ops Q R m t a w → wpAnyR P md ops Q R m t.len listed a w
  | .done, listed, a, w, _, hB, h => ⟨by simpa [trOk] using hB, h⟩
  | .q i rest, listed, a, w, hc, hB, h => by
    obtain ⟨oi, v, hoi, hy, hk⟩ := h
    simp only [trOk, Bool.and_eq_true, bne_iff_ne, ne_eq] at hB
    obtain ⟨⟨⟨him, hr⟩, hf⟩, hB'⟩ := hB
    have hr' : i ∈ Region.ready md ops listed := by simpa using hr
    exact wpAnyR_first hrefl htrans hlast hoi him (Region.noSelect_spec hs) (fun c a w => hQ c a oi.dst v w) rest.len listed a w hc (Region.free_spec hoi hf) hr' hy
      (wpAnyR_of_tr hrefl htrans hlast hs hQ rest _ _ w (hc.set hr') hB' hk)
  | .e i rest, listed, a, w, hc, hB, h => by
    simp only [trOk, Bool.and_eq_true, decide_eq_true_eq] at hB
    refine ⟨fun h0 => (by rw [hB.1] at h0; cases h0), fun j hj => ?_⟩
    have hr' : i ∈ Region.ready md ops listed := by rw [hB.1]; simp
    rw [hB.1] at hj
    obtain rfl : j = i := by simpa using hj
    exact wpOp_mono (fun a' w' h' => ⟨h'.1, wpAnyR_of_tr hrefl htrans hlast hs hQ rest _ a' w' (hc.set hr') hB.2 h'.2⟩) h
  | .fork i j s t, listed, a, w, hc, hB, h => by
    simp only [trOk, Bool.and_eq_true, decide_eq_true_eq] at hB
    obtain ⟨⟨⟨hr, hl⟩, hBs⟩, hBt⟩ := hB
    refine ⟨fun h0 => (by rw [hr] at h0; cases h0), fun k hk => ?_⟩
    have hri : i ∈ Region.ready md ops listed := by rw [hr]; simp
    have hrj : j ∈ Region.ready md ops listed := by rw [hr]; simp
    rw [hr] at hk
    have hk' : k = i ∨ k = j := by simpa using hk
    rcases hk' with rfl | rfl
    · exact wpOp_mono (fun a' w' h' => ⟨h'.1, wpAnyR_of_tr hrefl htrans hlast hs hQ s _ a' w' (hc.set hri) hBs h'.2⟩) h.1
    · exact wpOp_mono (fun a' w' h' => ⟨h'.1, by have := wpAnyR_of_tr hrefl htrans hlast hs hQ t _ a' w' (hc.set hrj) hBt h'.2; rwa [← hl] at this⟩) h.2

def regionOk2 (ops : Array Oper) (m : Nat) (t : Tr) : Bool :=
  Region.noSelect ops && lastB .any ops m && decide (t.len = ops.size) && trOk .any ops m t (Array.replicate ops.size false)
theorem wp_region_tr {id : Nat} {l : List Oper} (R : World → World → Prop) (m : Nat) (t : Tr) (hm : P.follows .mixedOrders = true) (hB : regionOk2 l.toArray m t = true)
    (hrefl : ∀ w, R w w) (htrans : ∀ a b c, R a b → R b c → R a c) {a : Act} {w : World} (hQ : ∀ c a d v w, Q (.panic c) (Act.put a d v) w → Q (.panic c) a w)
    (h : wpTr P l.toArray Q R m t a w.drew) : (Code.region id l.toArray true).wp P Q a w := by
  simp only [regionOk2, Bool.and_eq_true, decide_eq_true_eq] at hB
  obtain ⟨⟨⟨hs, hl⟩, hn⟩, hok⟩ := hB
  refine wp_region_any hm ?_
  have hc : ClosedL .any l.toArray (Array.replicate l.toArray.size false) := fun j oj hj hlj => by
    have := rep_false l.toArray.size j
    rw [this] at hlj
    cases hlj
  have := wpAnyR_of_tr hrefl htrans hl hs hQ t _ a w.drew hc hok h
  rw [hn] at this
  exact wpAnyR_any _ _ _ _ this
theorem wpTr_q {l : List Oper} {i : Nat} {o : Oper} {rest : Tr} {a : Act} {w : World} (v : Value) (ho : l[i]? = some o) (hw : Region.wanted o (yielded l.toArray a.tmps) = true)
    (h : ∀ w', R w w' → (execOp a.eval o).run P w' = .ok (.value v) w') (hk : wpTr P l.toArray Q R m rest (a.put o.dst v) w) : wpTr P l.toArray Q R m (.q i rest) a w :=
  ⟨o, v, by simpa using ho, .inl ⟨hw, h⟩, hk⟩
theorem wpTr_e {l : List Oper} {i : Nat} {o : Oper} {rest : Tr} {a : Act} {w : World} (ho : l[i]? = some o) (hw : Region.wanted o (yielded l.toArray a.tmps) = true)
    (h : ∀ K : Act → World → Prop, (∀ a' w', (i ≠ m → R w w') → wpTr P l.toArray Q R m rest a' w' → K a' w') → o.wp P a w K Q) : wpTr P l.toArray Q R m (.e i rest) a w := by
  have ho' : l.toArray[i]? = some o := by simpa using ho
  unfold wpTr wpOp
  simp only [ho', hw, if_true]
  exact .inl (h _ fun a' w' h1 h2 => ⟨h1, h2⟩)
theorem wpTr_fork {l : List Oper} {i j : Nat} {s t : Tr} {a : Act} {w : World} (h1 : wpTr P l.toArray Q R m (.e i s) a w) (h2 : wpTr P l.toArray Q R m (.e j t) a w) : wpTr P l.toArray Q R m (.fork i j s t) a w := by
  unfold wpTr at *
  exact ⟨h1, h2⟩
theorem wpTr_done {a : Act} {w : World} (h : Q .normal a w) : wpTr P ops Q R m .done a w := h
end
end Go.Proofs.YtmmaddmlfofgbaaDoor
/- A slice that is written out in a region whose order is left open. No program in sight. -/
namespace Go.Proofs.YtmmaddmlfofgbaaDoor
set_option linter.unusedSimpArgs false
set_option linter.unusedVariables false
open Go.RowKit Res

section
variable {P : Program} {S : Nat → Prop} {w0 w : World} {l : List Res} {o : Oper} {a : Act} {K : Act → World → Prop} {Q : Exit → Act → World → Prop}
end
section
variable {P : Program} {w0 w : World} {l : List Res} {Q : Exit → Act → World → Prop} {a a0 : Act} {B : Nat} {R : World → World → Prop}
variable {L : List Oper} {i j m : Nat} {sch : List (Nat × Bool)} {ss : List Nat} {dst : Option Tmp} {t ty : TypeId} {x : Operand} {pos : String} {after : Array Edge}
/-- a row of operations as a tree, with a tree behind it -/
def Tr.pre : List (Nat × Bool) → Tr → Tr
  | [], t => t
  | (i, true) :: s, t => .q i (Tr.pre s t)
  | (i, false) :: s, t => .e i (Tr.pre s t)
theorem wpTr_pre {ops : Array Oper} {Q2 : Exit → Act → World → Prop} {t : Tr} (h1 : ∀ a w, Q2 .normal a w → wpTr P ops Q R m t a w) (h2 : ∀ e a w, e ≠ .normal → Q2 e a w → Q e a w) :
    ∀ (s : List (Nat × Bool)) (a : Act) (w : World), wpSch P ops Q2 R m s a w → wpTr P ops Q R m (Tr.pre s t) a w
  | [], a, w, h => h1 a w h
  | (i, true) :: s, a, w, h => by
    obtain ⟨oi, v, e1, e2, h⟩ := h
    exact ⟨oi, v, e1, e2, wpTr_pre h1 h2 s _ _ h⟩
  | (i, false) :: s, a, w, h => by
    have h' : wpOp P ops Q2 i (fun a' w' => (i ≠ m → R w w') ∧ wpTr P ops Q R m (Tr.pre s t) a' w') a w := wpOp_mono (fun a' w' h => ⟨h.1, wpTr_pre h1 h2 s _ _ h.2⟩) h
    show wpOp P ops Q i _ a w
    unfold wpOp at h' ⊢
    cases ho : ops[i]? with
    | none => rw [ho] at h'; exact h'
    | some o =>
      rw [ho] at h'
      dsimp only at h' ⊢
      split at h'
      · rename_i hw
        rw [if_pos hw]
        rcases h' with h' | ⟨h3, h4⟩
        · refine .inl ?_
          unfold Oper.wp at *
          generalize (execOp a.eval o).run P w = r at *
          cases r with
          | ok n w' =>
            cases n <;> simp only [Oper.upon] at h' ⊢ <;> first | exact h' | exact h'.mono (fun e w'' he => by cases e <;> first | exact he | exact h2 _ _ _ (by simp) he | (obtain ⟨b, c, d⟩ := he; exact ⟨b, c, h2 _ _ _ (by simp) d⟩))
          | halt x w' => cases x <;> simp only [Oper.upon] at h' ⊢ <;> first | exact h' | exact h2 _ _ _ (by simp) h'
        · obtain ⟨b, c, d⟩ := h4
          exact .inr ⟨h3, b, c, h2 _ _ _ (by simp) d⟩
      · rename_i hw
        rw [if_neg hw]
        exact h'
end
end Go.Proofs.YtmmaddmlfofgbaaDoor
/- Appends in a region whose order is left open. No program in sight. -/
namespace Go.Proofs.YtmmaddmlfofgbaaDoor
set_option linter.unusedSimpArgs false
set_option linter.unusedVariables false
open Go.RowKit Res

section
variable {P : Program} {S : Nat → Prop} {w0 w : World} {l : List Res} {o : Oper} {a : Act} {K : Act → World → Prop} {Q : Exit → Act → World → Prop}
theorem wp_appendsF (M : Mem S w0 l w) {t e : TypeId} {sz bytes : Nat} (E : ElemOf P t e sz bytes) (s x : Operand) (ho : o.op = .call { callee := .builtin .append, args := #[s, x], argTypes := #[t, t] })
    {α : Type} {f : α → List Value} {A : Option Addr} {c n : Nat} {xs : List α} {F : Res → List Res} (hs : a.eval s = .slice A n c) (p : Pick l (ow e f sz A c xs) F) (hn : n = xs.length) (ys : List α)
    {B : Option Addr} {m cx lo hi : Nat} (hx : a.eval x = .slice B m cx) (hm : m = ys.length) (hrow : Row w lo hi sz B m (ys.flatMap f)) {ad : Addr} (hB : B = some ad) (hf : ∀ x, (f x).length = sz) (h1 : ∀ x, ∀ u ∈ f x, u.oneCell' = true)
    (hsmall : (xs.length + ys.length) * bytes ≤ 140737488355328) (hlen : xs.length + ys.length ≤ 140737488355328)
    (h : ∀ A' c' w', Fr (fun b => ¬ ownBlk A = some b) w w' → Mem S w0 (F (ow e f sz A' c' (xs ++ ys))) w' → K (a.put o.dst (.slice A' (xs.length + ys.length) c')) w') : o.wp P a w K Q := by
  subst hB hn hm
  obtain ⟨i, z, hi, hz, hsz, hby, hzs⟩ := E.info
  have hown := M.own p
  obtain ⟨v', w', hr, h2, h3, h4, h5⟩ := run_append_own_at (P := P) (w := w) (ty := o.type) 0 t e i z sz bytes E.under hi hz hsz hby hzs E.pos (.slice A xs.length c) xs.length (xs.flatMap f) hown ad ys.length cx (ys.flatMap f)
    (length_flatMap' hf ys) (fun j u hj => by
      have hy : 0 < ys.length := by
        cases ys with
        | nil => simp at hj
        | cons y ys => simp
      obtain ⟨b, off, e, _, _, hc⟩ := hrow.mem hy
      injection e with e
      subst e
      rw [add_plain]
      exact hc j u hj) (fun u hu => by obtain ⟨x, _, hx⟩ := List.mem_flatMap.1 hu; exact h1 x u hx) (by unfold maxLen; omega) hsmall (Nat.zero_le _)
  unfold Oper.wp execOp
  simp only [ho, resolve, invoke, builtin, Sem.run_bind, Sem.run_pure, Result.andThen_ok, List.map_toArray, List.map_cons, List.map_nil, hs, hx, hr]
  obtain ⟨A', c', rfl⟩ := own_form h2
  rw [ownBlock_slice] at h3 h5
  rw [ownBlock_slice] at h5
  refine h A' c' w' (Fr.of_grown h3 fun g e _ hg => hg e) (M.put p (Fr.of_grown h3 fun g e _ hg => hg e) _ ?_ fun b hb => ?_)
  · show Own w' 0 e f sz A' c' (xs ++ ys)
    unfold Own
    rw [List.flatMap_append, List.length_append]
    exact h2
  · rcases h5 with h5 | h5
    · exact .inl (by show ownBlk A = some b; rw [← h5]; exact hb)
    · refine .inr ?_
      have hb' : ownBlk A' = some b := hb
      rw [h5] at hb'
      injection hb' with hb'
      omega
theorem wp_append1F (M : Mem S w0 l w) {t e : TypeId} {sz bytes : Nat} (E : ElemOf P t e sz bytes) (s x : Operand) (ho : o.op = .call { callee := .builtin .append, args := #[s, x], argTypes := #[t, t] })
    {α : Type} {f : α → List Value} {A : Option Addr} {c n : Nat} {xs : List α} {F F2 : Res → List Res} (hs : a.eval s = .slice A n c) (g : Nat) (hx : a.eval x = .slice (some ⟨g, 0, none⟩) 1 1) (p : Pick l (ow e f sz A c xs) F) (hn : n = xs.length) (y : α)
    {u : TypeId} {cs : List Value} (p2 : Pick l (bx g u cs) F2) (hcs : cs = f y) (hf : ∀ x, (f x).length = sz) (h1 : ∀ x, ∀ u ∈ f x, u.oneCell' = true)
    (hsmall : (xs.length + 1) * bytes ≤ 140737488355328) (hlen : xs.length + 1 ≤ 140737488355328)
    (h : ∀ A' c' w', Fr (fun b => ¬ ownBlk A = some b) w w' → Mem S w0 (F (ow e f sz A' c' (xs ++ [y]))) w' → K (a.put o.dst (.slice A' (xs.length + 1) c')) w') : o.wp P a w K Q := by
  have hb := M.box p2
  subst hcs
  exact wp_appendsF M E s x ho hs p hn [y] hx rfl (lo := 0) (hi := w.heap.size) ⟨by simp [hf], fun _ => ⟨g, 0, rfl, Nat.zero_le _, hb.lt, fun j u hj => by rw [Nat.zero_add, hb.cell]; simpa using hj⟩⟩ rfl hf h1 hsmall hlen h
end
end Go.Proofs.YtmmaddmlfofgbaaDoor
/- Numbers in digits of sixteen: the library's writer at base 16 (walk). -/
namespace Go.Proofs.YtmmaddmlfofgbaaDoor
set_option linter.unusedSimpArgs false
set_option linter.unusedVariables false
open Go.RowKit Res

section
variable {P : Program} {w : World} {o : Oper} {a : Act} {K : Act → World → Prop} {Q : Exit → Act → World → Prop}
/-- a byte of a text -/
theorem wp_indexS (t : TypeId) (x y : Operand) (ho : o.op = .index t x y) (ht : P.underlying t = some .string) (s : ByteArray) (hx : a.eval x = .string s) (k : IntKind) (i : Nat) (hy : a.eval y = .int k i) (c : UInt8) (hc : s.data.toList[i]? = some c)
    (h : K (a.put o.dst (.int .u8 (c.toNat : Int))) w) : o.wp P a w K Q := by
  have hi : i < s.size := by
    have := (List.getElem?_eq_some_iff.1 hc).1
    simpa using this
  have hg : s[i]? = some c := by
    have h1 : s.data.toList[i]? = some s[i] := by
      rw [List.getElem?_eq_getElem (by simpa using hi)]; rfl
    rw [h1] at hc
    rw [getElem?_pos s i hi]
    exact hc
  unfold Oper.wp execOp
  have hu := run_underlying ht w
  simp only [ho, hx, hy, Instr.index, asIntOf, Sem.run_bind, Sem.run_pure, Result.andThen_ok, hu]
  rw [if_pos (by omega), Int.toNat_natCast, hg]
  simp only [Sem.run_bind, Sem.run_pure, Result.andThen_ok]
  exact h
/-- bytes as a text -/
theorem wp_toStr (src dst e : TypeId) (x : Operand) (ho : o.op = .convert src dst x) (hs : P.underlying src = some (.slice e)) (he : P.underlying e = some (.int .u8)) (hd : P.underlying dst = some .string) {A : Option Addr} {n c : Nat} (hx : a.eval x = .slice A n c) {lo hi : Nat} {l : List UInt8} (hr : Row w lo hi 1 A n (l.map byteV))
    (h : K (a.put o.dst (str l)) w) : o.wp P a w K Q := by
  unfold Oper.wp execOp
  simp only [ho, hx, Sem.run_bind, run_string_row w src dst e hs he hd hr c, Sem.run_pure, Result.andThen_ok]
  exact h
/-- the rest of an array of one-cell elements -/
theorem wp_sliceArrL (t e : TypeId) (N : Nat) (x y : Operand) (ho : o.op = .slice t x (some y) none none) (ht : P.underlying t = some (.array N e)) (he : ∀ w, (sizeOf e).run P w = .ok 1 w) {g : Nat} (hx : a.eval x = .pointer (some ⟨g, 0, none⟩)) (kk : IntKind) (k : Nat) (hy : a.eval y = .int kk k) (hk : k < N)
    (h : K (a.put o.dst (.slice (some ⟨g, k, none⟩) (N - k) (N - k))) w) : o.wp P a w K Q := by
  have hu := run_underlying ht w
  have hadd : (⟨g, 0, none⟩ : Addr).add (k * 1) = ⟨g, k, none⟩ := by unfold Addr.add; split <;> simp_all
  unfold Oper.wp execOp
  simp only [ho, hx, hy, Option.map_some, Option.map_none, Instr.sliceAt, Instr.sureAddr, Instr.sliceBounds, Instr.sliceBound, asIntOf, Sem.run_bind, Sem.run_pure, Result.andThen_ok, hu]
  rw [if_pos (by omega)]
  simp only [Sem.run_bind, Sem.run_pure, Result.andThen_ok, he, Int.toNat_natCast]
  rw [if_neg (by omega), hadd]
  exact h
variable {dst : Option Tmp} {t ty t' : TypeId} {x y : Operand} {pos : String} {after : Array Edge} {gd : Option (Nat × Bool)}
theorem on_index (h : (Oper.mk dst (.index t x y) ty pos after gd).wp P a w K Q) : (Oper.mk dst (.index t x y) ty pos after gd).wp P a w K Q := h
theorem on_cut {y z u : Option Operand} (h : (Oper.mk dst (.slice t x y z u) ty pos after gd).wp P a w K Q) : (Oper.mk dst (.slice t x y z u) ty pos after gd).wp P a w K Q := h
theorem on_convert (h : (Oper.mk dst (.convert t t' x) ty pos after gd).wp P a w K Q) : (Oper.mk dst (.convert t t' x) ty pos after gd).wp P a w K Q := h
end

theorem tz64 (w : World) (htab : w.cell? ⟨5, 15, none⟩ = some (.int .u8 4)) : Calls Tryd.prog 84 #[.int .u64 16] w fun e w' => e = .returned (.int .i64 4) ∧ w = w' := by
  have h0 : IntKind.u64.wrap (-16) = 18446744073709551600 := by rw [IntKind.wrap_u64]; decide
  have h1 : bits .and .u64 16 18446744073709551600 = 16 := by decide +kernel
  have h2 : IntKind.u64.wrap 4573923408821661840 = 4573923408821661840 := by rw [IntKind.wrap_u64]; decide
  go_enter Tryd.func84, Tryd.ntmps84
  go_wp2
  go_ret
  exact ⟨rfl, rfl⟩
theorem tz (w : World) (htab : w.cell? ⟨5, 15, none⟩ = some (.int .u8 4)) : Calls Tryd.prog 79 #[.int .u64 16] w fun e w' => e = .returned (.int .i64 4) ∧ w = w' := by
  go_enter Tryd.func79, Tryd.ntmps79
  go_wp2_with (go_at_call 84; (with_reducible refine (tz64 _ htab).mono ?_); rintro e w1 ⟨rfl, rfl⟩)
  go_ret
  exact ⟨rfl, rfl⟩
theorem two_power (w : World) : Calls Tryd.prog 78 #[.int .i64 16] w fun e w' => e = .returned (.bool true) ∧ w = w' := by
  have h1 : bits .and .i64 16 15 = 0 := by decide +kernel
  go_enter Tryd.func78, Tryd.ntmps78
  go_wp2
  go_ret
  exact ⟨rfl, rfl⟩

/-! ## the digits -/
def b36 : List UInt8 := [48, 49, 50, 51, 52, 53, 54, 55, 56, 57, 97, 98, 99, 100, 101, 102, 103, 104, 105, 106, 107, 108, 109, 110, 111, 112, 113, 114, 115, 116, 117, 118, 119, 120, 121, 122]
theorem b36_get {d : Nat} (h : d < 16) : b36[d]? = some (hexDig d) := by
  have : ∀ d, d < 16 → b36[d]? = some (hexDig d) := by decide
  exact this d h
/-- the writer's row behind j digits -/
def digRow (n j : Nat) : List Value := List.replicate (65 - j) (.int .u8 0) ++ (hexDigs j n).map byteV
theorem digRow_length {n j : Nat} (h : j ≤ 65) : (digRow n j).length = 65 := by simp [digRow, hexDigs_length]; omega
theorem digRow_step {n j k : Nat} (h : j + k + 1 = 65) : (digRow n j).set k (byteV (hexDig (n / 16 ^ j % 16))) = digRow n (j + 1) := by
  unfold digRow
  have e1 : 65 - j = k + 1 := by omega
  have e2 : 65 - (j + 1) = k := by omega
  rw [e1, e2, List.set_append_left _ _ (by simp), List.replicate_succ', List.set_append_right _ _ (by simp), Nat.add_comm j 1, hexDigs_more 1 j n]
  simp [hexDigs]
theorem u64_and15 (n : Nat) (h : n < 18446744073709551616) : bits .and .u64 (n : Int) 15 = ((n % 16 : Nat) : Int) := by
  have h1 := (bits_nat .u64 64 (by decide) (fun n h1 h2 => by rw [IntKind.wrap_u64]; omega) n 15 (by simpa using h) (by decide)).1
  rw [Nat.and_two_pow_sub_one_eq_mod n 4] at h1
  exact h1
end Go.Proofs.YtmmaddmlfofgbaaDoor
/- Numbers in digits of sixteen: the library's writer at base 16 (walk, second part). -/
namespace Go.Proofs.YtmmaddmlfofgbaaDoor
set_option linter.unusedSimpArgs false
set_option linter.unusedVariables false
open Go.RowKit Res

theorem pow_lt {n j : Nat} (hn : n < 18446744073709551616) (h : 16 ≤ n / 16 ^ j) : j < 15 := by
  refine Nat.lt_of_not_le fun hj => ?_
  have h1 : 16 ^ 15 ≤ 16 ^ j := Nat.pow_le_pow_right (by decide) hj
  have h2 : n / 16 ^ j ≤ n / 16 ^ 15 := Nat.div_le_div_left h1 (by decide)
  have h3 : n / 16 ^ 15 < 16 := Nat.div_lt_of_lt_mul (by simpa using hn)
  omega
theorem lt_pow {n j : Nat} (h : n / 16 ^ j < 16) : n < 16 ^ (j + 1) := by
  rw [Nat.pow_succ]
  exact Nat.lt_mul_of_div_lt h (Nat.pow_pos (by decide)) |> fun h => by rw [Nat.mul_comm] at h; first | exact h | (rw [Nat.mul_comm]; exact h)
theorem digRow_row {n j k g : Nat} {S : Nat → Prop} {w0 w : World} {t : TypeId} (M : Mem S w0 [bx g t (digRow n (j + 1))] w) (h : j + k + 1 = 65) : Row w 0 w.heap.size 1 (some ⟨g, k, none⟩) (65 - k) ((hexDigs (j + 1) n).map byteV) := by
  have hb := M.box .head
  refine ⟨by simp [hexDigs_length]; omega, fun _ => ⟨g, k, rfl, Nat.zero_le _, hb.lt, fun i u hi => ?_⟩⟩
  rw [hb.cell]
  have e1 : 65 - (j + 1) = k := by omega
  unfold digRow
  rw [e1]
  simp only [List.getElem?_toArray]
  rw [List.getElem?_append_right (by simp)]
  simpa using hi
set_option maxRecDepth 100000 in
set_option maxHeartbeats 800000 in
theorem formatBits_16 (n : Nat) (hn : n < 18446744073709551616) (w : World) (htab : w.cell? ⟨5, 15, none⟩ = some (.int .u8 4)) (hg : 5 < w.heap.size) :
    Calls Tryd.prog 67 #[.slice none 0 0, .int .u64 n, .int .i64 16, .bool false, .bool false] w fun e w' => ∃ L, (L ≤ 16 ∧ n < 16 ^ L) ∧ e = .returned (.tuple #[.slice none 0 0, str (hexDigs L n)]) ∧ Ext w w' := by
  have M := Mem.start w
  have HT : Hid (∀ w', Ext w w' → Calls Tryd.prog 79 #[.int .u64 16] w' fun e w'' => e = .returned (.int .i64 4) ∧ w' = w'') := Lib.hid (fun w' hx => tz w' ((hx.cell (p := ⟨5, 15, none⟩) hg).trans htab))
  clear htab
  have HZ : Hid ((List.replicate 65 (.int .u8 0) : List Value) = digRow n 0) := Lib.hid (by simp [digRow, hexDigs])
  go_enter Tryd.func67, Tryd.ntmps67
  (try dsimp only); (repeat (first | (first | (go_at_call 78; (with_reducible refine (two_power _).mono ?_); rintro _ w1 ⟨rfl, rfl⟩; dsimp only) | (go_at_call 79; (with_reducible refine (HT.out _ M.ext_of).mono ?_); rintro _ w1 ⟨rfl, rfl⟩; dsimp only) | ((with_reducible refine on_load ?_); first | (refine wp_load1 M _ _ rfl _ _ rfl (by (repeat (first | exact Pick.head | apply Pick.tail)); done) (fun w => ⟨by first | (simp [go_sem]; done) | (simp [go_sem]; rfl), by first | (simp [go_sem]; done) | (simp [go_sem]; rfl)⟩) _ (by rfl) ?_; (first | ((with_reducible refine fastK Tryd.prog rfl ?_); go_big_move) | ((with_reducible refine fastS Tryd.prog rfl ?_); go_big_move; (with_reducible show wpStill _ _ _ _ _ _)) | (with_reducible refine fastN rfl ?_) | (with_reducible refine fastSN rfl ?_) | (simp only [Act.put, List.setIfInBounds_toArray, List.set_cons_zero, List.set_cons_succ]) | skip)) | (refine wp_loadN M _ _ rfl _ rfl (by (repeat (first | exact Pick.head | apply Pick.tail)); done) (fun w => ⟨by first | (simp [go_sem]; done) | (simp [go_sem]; rfl), by first | (simp [go_sem]; done) | (simp [go_sem]; rfl)⟩) ?_; (first | ((with_reducible refine fastK Tryd.prog rfl ?_); go_big_move) | ((with_reducible refine fastS Tryd.prog rfl ?_); go_big_move; (with_reducible show wpStill _ _ _ _ _ _)) | (with_reducible refine fastN rfl ?_) | (with_reducible refine fastSN rfl ?_) | (simp only [Act.put, List.setIfInBounds_toArray, List.set_cons_zero, List.set_cons_succ]) | skip))) | ((with_reducible refine on_store ?_); first | (refine wp_store1 M _ _ _ rfl _ _ rfl (by (repeat (first | exact Pick.head | apply Pick.tail)); done) (fun w => ⟨by first | (simp [go_sem]; done) | (simp [go_sem]; rfl), by first | (simp [go_sem]; done) | (simp [go_sem]; rfl)⟩) _ (by first | exact CellsOf.agg _ | exact CellsOf.int _ _ | exact CellsOf.str _ | exact CellsOf.bool _ | exact CellsOf.slice _ _ _ | exact CellsOf.pointer _) (by rfl) (by (simp; done)) ?_; clear M; intro w' M; (try simp only [List.set_cons_zero, List.set_cons_succ] at M); (first | ((with_reducible refine fastK Tryd.prog rfl ?_); go_big_move) | ((with_reducible refine fastS Tryd.prog rfl ?_); go_big_move; (with_reducible show wpStill _ _ _ _ _ _)) | (with_reducible refine fastN rfl ?_) | (with_reducible refine fastSN rfl ?_) | (simp only [Act.put, List.setIfInBounds_toArray, List.set_cons_zero, List.set_cons_succ]) | skip)) | (refine wp_storeN M _ _ _ rfl _ rfl (by (repeat (first | exact Pick.head | apply Pick.tail)); done) (fun w => ⟨by first | (simp [go_sem]; done) | (simp [go_sem]; rfl), by first | (simp [go_sem]; done) | (simp [go_sem]; rfl)⟩) _ rfl (by rfl) (by rfl) ?_; clear M; intro w' M; (try simp only [] at M); (first | ((with_reducible refine fastK Tryd.prog rfl ?_); go_big_move) | ((with_reducible refine fastS Tryd.prog rfl ?_); go_big_move; (with_reducible show wpStill _ _ _ _ _ _)) | (with_reducible refine fastN rfl ?_) | (with_reducible refine fastSN rfl ?_) | (simp only [Act.put, List.setIfInBounds_toArray, List.set_cons_zero, List.set_cons_succ]) | skip))) | ((with_reducible refine on_box ?_); refine wp_box M _ _ rfl _ (by first | exact CellsOf.agg _ | exact CellsOf.int _ _ | exact CellsOf.str _ | exact CellsOf.bool _ | exact CellsOf.slice _ _ _ | exact CellsOf.pointer _) ?_; clear M; intro g w' M; (first | ((with_reducible refine fastK Tryd.prog rfl ?_); go_big_move) | ((with_reducible refine fastS Tryd.prog rfl ?_); go_big_move; (with_reducible show wpStill _ _ _ _ _ _)) | (with_reducible refine fastN rfl ?_) | (with_reducible refine fastSN rfl ?_) | (simp only [Act.put, List.setIfInBounds_toArray, List.set_cons_zero, List.set_cons_succ]) | skip)) | ((with_reducible refine on_alloc ?_); refine wp_alloc M _ rfl _ (by simp [go_sem]; rfl) _ (by first | exact CellsOf.agg _ | exact CellsOf.int _ _ | exact CellsOf.str _ | exact CellsOf.bool _ | exact CellsOf.slice _ _ _ | exact CellsOf.pointer _) ?_; clear M; intro g w' M; (first | ((with_reducible refine fastK Tryd.prog rfl ?_); go_big_move) | ((with_reducible refine fastS Tryd.prog rfl ?_); go_big_move; (with_reducible show wpStill _ _ _ _ _ _)) | (with_reducible refine fastN rfl ?_) | (with_reducible refine fastSN rfl ?_) | (simp only [Act.put, List.setIfInBounds_toArray, List.set_cons_zero, List.set_cons_succ]) | skip))) | go_values | go_skip | go_guarded | go_step | go_upon))
  replace M : Mem (· < w.heap.size) w [bx g 123 (digRow n 0)] w' := by rw [← HZ.out]; exact M
  clear HZ HT
  go_loopw [1, 13] (fun u i wr => ∃ (j k : Nat), j + k + 1 = 65 ∧ j ≤ 15 ∧ u = .int .u64 ((n / 16 ^ j : Nat) : Int) ∧ i = .int .i64 ((k : Int) + 1) ∧ Mem (· < w.heap.size) w [bx g 123 (digRow n j)] wr) (fun _ i _ => (intOf i).toNat)
  case atStart => exact ⟨0, 64, by omega, by omega, by simp, rfl, M⟩
  case round =>
    clear M
    obtain ⟨j, k, hjk, hj, rfl, rfl, M⟩ := hrel
    have hlt := fun h => pow_lt (j := j) hn h
    have hend := fun h => lt_pow (n := n) (j := j) h
    have hU0 : n / 16 ^ j ≤ n := Nat.div_le_self _ _
    have hnext : n / 16 ^ (j + 1) = n / 16 ^ j / 16 := by rw [Nat.div_div_eq_div_mul, Nat.pow_succ]
    have hset := digRow_step (n := n) hjk
    obtain ⟨U, hU⟩ : ∃ U, U = n / 16 ^ j := ⟨_, rfl⟩
    rw [← hU] at hlt hend hU0 hnext hset ⊢
    clear hU
    have hU64 : U < 18446744073709551616 := by omega
    have hand := u64_and15 U hU64
    have hb := b36_get (d := U % 16) (by omega)
    have HSET := Lib.hid hset
    have HNEXT := Lib.hid hnext
    have HEND := Lib.hid hend
    have HLT := Lib.hid hlt
    have HB := Lib.hid hb
    clear hset hnext hend hlt hb
    by_cases hc : 16 ≤ U
    · have := HLT.out hc
      (try dsimp only); (repeat (first | (first | ((with_reducible refine on_index ?_); refine wp_indexS _ _ _ rfl Tryd.underlying9 _ rfl _ (U % 16) (by first | rfl | (simp; done)) _ HB.out ?_; (first | ((with_reducible refine fastK Tryd.prog rfl ?_); go_big_move) | ((with_reducible refine fastS Tryd.prog rfl ?_); go_big_move; (with_reducible show wpStill _ _ _ _ _ _)) | (with_reducible refine fastN rfl ?_) | (with_reducible refine fastSN rfl ?_) | (simp only [Act.put, List.setIfInBounds_toArray, List.set_cons_zero, List.set_cons_succ]) | skip)) | ((with_reducible refine on_store ?_); refine wp_store1 M _ _ _ rfl _ _ rfl (by (repeat (first | exact Pick.head | apply Pick.tail)); done) (fun w => ⟨by first | (simp [go_sem]; done) | (simp [go_sem]; rfl), by first | (simp [go_sem]; done) | (simp [go_sem]; rfl)⟩) _ (by first | exact CellsOf.agg _ | exact CellsOf.int _ _ | exact CellsOf.str _ | exact CellsOf.bool _ | exact CellsOf.slice _ _ _ | exact CellsOf.pointer _) (by rfl) (by rw [digRow_length (by omega)]; omega) ?_; clear M; intro w1 M; (first | ((with_reducible refine fastK Tryd.prog rfl ?_); go_big_move) | ((with_reducible refine fastS Tryd.prog rfl ?_); go_big_move; (with_reducible show wpStill _ _ _ _ _ _)) | (with_reducible refine fastN rfl ?_) | (with_reducible refine fastSN rfl ?_) | (simp only [Act.put, List.setIfInBounds_toArray, List.set_cons_zero, List.set_cons_succ]) | skip)) | ((with_reducible refine on_load ?_); first | (refine wp_load1 M _ _ rfl _ _ rfl (by (repeat (first | exact Pick.head | apply Pick.tail)); done) (fun w => ⟨by first | (simp [go_sem]; done) | (simp [go_sem]; rfl), by first | (simp [go_sem]; done) | (simp [go_sem]; rfl)⟩) _ (by rfl) ?_; (first | ((with_reducible refine fastK Tryd.prog rfl ?_); go_big_move) | ((with_reducible refine fastS Tryd.prog rfl ?_); go_big_move; (with_reducible show wpStill _ _ _ _ _ _)) | (with_reducible refine fastN rfl ?_) | (with_reducible refine fastSN rfl ?_) | (simp only [Act.put, List.setIfInBounds_toArray, List.set_cons_zero, List.set_cons_succ]) | skip)) | (refine wp_loadN M _ _ rfl _ rfl (by (repeat (first | exact Pick.head | apply Pick.tail)); done) (fun w => ⟨by first | (simp [go_sem]; done) | (simp [go_sem]; rfl), by first | (simp [go_sem]; done) | (simp [go_sem]; rfl)⟩) ?_; (first | ((with_reducible refine fastK Tryd.prog rfl ?_); go_big_move) | ((with_reducible refine fastS Tryd.prog rfl ?_); go_big_move; (with_reducible show wpStill _ _ _ _ _ _)) | (with_reducible refine fastN rfl ?_) | (with_reducible refine fastSN rfl ?_) | (simp only [Act.put, List.setIfInBounds_toArray, List.set_cons_zero, List.set_cons_succ]) | skip))) | ((with_reducible refine on_store ?_); first | (refine wp_store1 M _ _ _ rfl _ _ rfl (by (repeat (first | exact Pick.head | apply Pick.tail)); done) (fun w => ⟨by first | (simp [go_sem]; done) | (simp [go_sem]; rfl), by first | (simp [go_sem]; done) | (simp [go_sem]; rfl)⟩) _ (by first | exact CellsOf.agg _ | exact CellsOf.int _ _ | exact CellsOf.str _ | exact CellsOf.bool _ | exact CellsOf.slice _ _ _ | exact CellsOf.pointer _) (by rfl) (by (simp; done)) ?_; clear M; intro w' M; (try simp only [List.set_cons_zero, List.set_cons_succ] at M); (first | ((with_reducible refine fastK Tryd.prog rfl ?_); go_big_move) | ((with_reducible refine fastS Tryd.prog rfl ?_); go_big_move; (with_reducible show wpStill _ _ _ _ _ _)) | (with_reducible refine fastN rfl ?_) | (with_reducible refine fastSN rfl ?_) | (simp only [Act.put, List.setIfInBounds_toArray, List.set_cons_zero, List.set_cons_succ]) | skip)) | (refine wp_storeN M _ _ _ rfl _ rfl (by (repeat (first | exact Pick.head | apply Pick.tail)); done) (fun w => ⟨by first | (simp [go_sem]; done) | (simp [go_sem]; rfl), by first | (simp [go_sem]; done) | (simp [go_sem]; rfl)⟩) _ rfl (by rfl) (by rfl) ?_; clear M; intro w' M; (try simp only [] at M); (first | ((with_reducible refine fastK Tryd.prog rfl ?_); go_big_move) | ((with_reducible refine fastS Tryd.prog rfl ?_); go_big_move; (with_reducible show wpStill _ _ _ _ _ _)) | (with_reducible refine fastN rfl ?_) | (with_reducible refine fastSN rfl ?_) | (simp only [Act.put, List.setIfInBounds_toArray, List.set_cons_zero, List.set_cons_succ]) | skip))) | ((with_reducible refine on_box ?_); refine wp_box M _ _ rfl _ (by first | exact CellsOf.agg _ | exact CellsOf.int _ _ | exact CellsOf.str _ | exact CellsOf.bool _ | exact CellsOf.slice _ _ _ | exact CellsOf.pointer _) ?_; clear M; intro g w' M; (first | ((with_reducible refine fastK Tryd.prog rfl ?_); go_big_move) | ((with_reducible refine fastS Tryd.prog rfl ?_); go_big_move; (with_reducible show wpStill _ _ _ _ _ _)) | (with_reducible refine fastN rfl ?_) | (with_reducible refine fastSN rfl ?_) | (simp only [Act.put, List.setIfInBounds_toArray, List.set_cons_zero, List.set_cons_succ]) | skip)) | ((with_reducible refine on_alloc ?_); refine wp_alloc M _ rfl _ (by simp [go_sem]; rfl) _ (by first | exact CellsOf.agg _ | exact CellsOf.int _ _ | exact CellsOf.str _ | exact CellsOf.bool _ | exact CellsOf.slice _ _ _ | exact CellsOf.pointer _) ?_; clear M; intro g w' M; (first | ((with_reducible refine fastK Tryd.prog rfl ?_); go_big_move) | ((with_reducible refine fastS Tryd.prog rfl ?_); go_big_move; (with_reducible show wpStill _ _ _ _ _ _)) | (with_reducible refine fastN rfl ?_) | (with_reducible refine fastSN rfl ?_) | (simp only [Act.put, List.setIfInBounds_toArray, List.set_cons_zero, List.set_cons_succ]) | skip))) | go_values | go_skip | go_guarded | go_step | go_upon))
      rw [show (Value.int .u8 ((hexDig (U % 16)).toNat : Int)) = byteV (hexDig (U % 16)) from rfl, HSET.out] at M
      refine ⟨⟨j + 1, k - 1, by omega, by omega, ?_, ?_, M⟩, by simp [intOf]⟩
      · rw [HNEXT.out]; rfl
      · congr 1; omega
    · have hv : (U : Int) < 16 := by omega
      have hd : decide (16 ≤ (U : Int)) = false := by simp; omega
      have hU' : U % 16 = U := Nat.mod_eq_of_lt (by omega)
      rw [hU'] at HB HSET
      have HP := Lib.hid (HEND.out (by omega))
      (try dsimp only); (repeat (first | (first | ((with_reducible refine on_index ?_); refine wp_indexS _ _ _ rfl Tryd.underlying9 _ rfl _ U (by first | rfl | (simp; done)) _ HB.out ?_; (first | ((with_reducible refine fastK Tryd.prog rfl ?_); go_big_move) | ((with_reducible refine fastS Tryd.prog rfl ?_); go_big_move; (with_reducible show wpStill _ _ _ _ _ _)) | (with_reducible refine fastN rfl ?_) | (with_reducible refine fastSN rfl ?_) | (simp only [Act.put, List.setIfInBounds_toArray, List.set_cons_zero, List.set_cons_succ]) | skip)) | ((with_reducible refine on_store ?_); refine wp_store1 M _ _ _ rfl _ _ rfl (by (repeat (first | exact Pick.head | apply Pick.tail)); done) (fun w => ⟨by first | (simp [go_sem]; done) | (simp [go_sem]; rfl), by first | (simp [go_sem]; done) | (simp [go_sem]; rfl)⟩) _ (by first | exact CellsOf.agg _ | exact CellsOf.int _ _ | exact CellsOf.str _ | exact CellsOf.bool _ | exact CellsOf.slice _ _ _ | exact CellsOf.pointer _) (by rfl) (by rw [digRow_length (by omega)]; omega) ?_; clear M; intro w1 M; (replace M : Mem (· < w.heap.size) w [bx g 123 (digRow n (j + 1))] w1 := by rw [← HSET.out]; exact M); (first | ((with_reducible refine fastK Tryd.prog rfl ?_); go_big_move) | ((with_reducible refine fastS Tryd.prog rfl ?_); go_big_move; (with_reducible show wpStill _ _ _ _ _ _)) | (with_reducible refine fastN rfl ?_) | (with_reducible refine fastSN rfl ?_) | (simp only [Act.put, List.setIfInBounds_toArray, List.set_cons_zero, List.set_cons_succ]) | skip)) | ((with_reducible refine on_cut ?_); refine wp_sliceArrL _ _ 65 _ _ rfl Tryd.underlying123 (fun w => by first | (simp [go_sem]; done) | (simp [go_sem]; rfl)) rfl _ k rfl (by omega) ?_; (first | ((with_reducible refine fastK Tryd.prog rfl ?_); go_big_move) | ((with_reducible refine fastS Tryd.prog rfl ?_); go_big_move; (with_reducible show wpStill _ _ _ _ _ _)) | (with_reducible refine fastN rfl ?_) | (with_reducible refine fastSN rfl ?_) | (simp only [Act.put, List.setIfInBounds_toArray, List.set_cons_zero, List.set_cons_succ]) | skip)) | ((with_reducible refine on_convert ?_); refine wp_toStr _ _ _ _ rfl Tryd.underlying83 Tryd.underlying5 Tryd.underlying9 rfl (lo := 0) (hi := w1.heap.size) (l := hexDigs (j + 1) n) (digRow_row M (by omega)) ?_; (first | ((with_reducible refine fastK Tryd.prog rfl ?_); go_big_move) | ((with_reducible refine fastS Tryd.prog rfl ?_); go_big_move; (with_reducible show wpStill _ _ _ _ _ _)) | (with_reducible refine fastN rfl ?_) | (with_reducible refine fastSN rfl ?_) | (simp only [Act.put, List.setIfInBounds_toArray, List.set_cons_zero, List.set_cons_succ]) | skip)) | ((with_reducible refine on_load ?_); first | (refine wp_load1 M _ _ rfl _ _ rfl (by (repeat (first | exact Pick.head | apply Pick.tail)); done) (fun w => ⟨by first | (simp [go_sem]; done) | (simp [go_sem]; rfl), by first | (simp [go_sem]; done) | (simp [go_sem]; rfl)⟩) _ (by rfl) ?_; (first | ((with_reducible refine fastK Tryd.prog rfl ?_); go_big_move) | ((with_reducible refine fastS Tryd.prog rfl ?_); go_big_move; (with_reducible show wpStill _ _ _ _ _ _)) | (with_reducible refine fastN rfl ?_) | (with_reducible refine fastSN rfl ?_) | (simp only [Act.put, List.setIfInBounds_toArray, List.set_cons_zero, List.set_cons_succ]) | skip)) | (refine wp_loadN M _ _ rfl _ rfl (by (repeat (first | exact Pick.head | apply Pick.tail)); done) (fun w => ⟨by first | (simp [go_sem]; done) | (simp [go_sem]; rfl), by first | (simp [go_sem]; done) | (simp [go_sem]; rfl)⟩) ?_; (first | ((with_reducible refine fastK Tryd.prog rfl ?_); go_big_move) | ((with_reducible refine fastS Tryd.prog rfl ?_); go_big_move; (with_reducible show wpStill _ _ _ _ _ _)) | (with_reducible refine fastN rfl ?_) | (with_reducible refine fastSN rfl ?_) | (simp only [Act.put, List.setIfInBounds_toArray, List.set_cons_zero, List.set_cons_succ]) | skip))) | ((with_reducible refine on_store ?_); first | (refine wp_store1 M _ _ _ rfl _ _ rfl (by (repeat (first | exact Pick.head | apply Pick.tail)); done) (fun w => ⟨by first | (simp [go_sem]; done) | (simp [go_sem]; rfl), by first | (simp [go_sem]; done) | (simp [go_sem]; rfl)⟩) _ (by first | exact CellsOf.agg _ | exact CellsOf.int _ _ | exact CellsOf.str _ | exact CellsOf.bool _ | exact CellsOf.slice _ _ _ | exact CellsOf.pointer _) (by rfl) (by (simp; done)) ?_; clear M; intro w' M; (try simp only [List.set_cons_zero, List.set_cons_succ] at M); (first | ((with_reducible refine fastK Tryd.prog rfl ?_); go_big_move) | ((with_reducible refine fastS Tryd.prog rfl ?_); go_big_move; (with_reducible show wpStill _ _ _ _ _ _)) | (with_reducible refine fastN rfl ?_) | (with_reducible refine fastSN rfl ?_) | (simp only [Act.put, List.setIfInBounds_toArray, List.set_cons_zero, List.set_cons_succ]) | skip)) | (refine wp_storeN M _ _ _ rfl _ rfl (by (repeat (first | exact Pick.head | apply Pick.tail)); done) (fun w => ⟨by first | (simp [go_sem]; done) | (simp [go_sem]; rfl), by first | (simp [go_sem]; done) | (simp [go_sem]; rfl)⟩) _ rfl (by rfl) (by rfl) ?_; clear M; intro w' M; (try simp only [] at M); (first | ((with_reducible refine fastK Tryd.prog rfl ?_); go_big_move) | ((with_reducible refine fastS Tryd.prog rfl ?_); go_big_move; (with_reducible show wpStill _ _ _ _ _ _)) | (with_reducible refine fastN rfl ?_) | (with_reducible refine fastSN rfl ?_) | (simp only [Act.put, List.setIfInBounds_toArray, List.set_cons_zero, List.set_cons_succ]) | skip))) | ((with_reducible refine on_box ?_); refine wp_box M _ _ rfl _ (by first | exact CellsOf.agg _ | exact CellsOf.int _ _ | exact CellsOf.str _ | exact CellsOf.bool _ | exact CellsOf.slice _ _ _ | exact CellsOf.pointer _) ?_; clear M; intro g w' M; (first | ((with_reducible refine fastK Tryd.prog rfl ?_); go_big_move) | ((with_reducible refine fastS Tryd.prog rfl ?_); go_big_move; (with_reducible show wpStill _ _ _ _ _ _)) | (with_reducible refine fastN rfl ?_) | (with_reducible refine fastSN rfl ?_) | (simp only [Act.put, List.setIfInBounds_toArray, List.set_cons_zero, List.set_cons_succ]) | skip)) | ((with_reducible refine on_alloc ?_); refine wp_alloc M _ rfl _ (by simp [go_sem]; rfl) _ (by first | exact CellsOf.agg _ | exact CellsOf.int _ _ | exact CellsOf.str _ | exact CellsOf.bool _ | exact CellsOf.slice _ _ _ | exact CellsOf.pointer _) ?_; clear M; intro g w' M; (first | ((with_reducible refine fastK Tryd.prog rfl ?_); go_big_move) | ((with_reducible refine fastS Tryd.prog rfl ?_); go_big_move; (with_reducible show wpStill _ _ _ _ _ _)) | (with_reducible refine fastN rfl ?_) | (with_reducible refine fastSN rfl ?_) | (simp only [Act.put, List.setIfInBounds_toArray, List.set_cons_zero, List.set_cons_succ]) | skip))) | go_values | go_skip | go_guarded | go_step | go_upon))
      refine ret_m2 rfl (Out.tmp rfl) (Out.tmp rfl) rfl ⟨j + 1, ⟨by omega, HP.out⟩, rfl, M.ext_of⟩
end Go.Proofs.YtmmaddmlfofgbaaDoor
/- Names of numbers (layers 5 and 10): written (walk). -/
namespace Go.Proofs.YtmmaddmlfofgbaaDoor
set_option linter.unusedSimpArgs false
set_option linter.unusedVariables false
open Go.RowKit Res

/-- the library's table of places of bits -/
structure Tz (w : World) : Prop where
  cell : w.cell? ⟨5, 15, none⟩ = some (.int .u8 4)
  lt : 5 < w.heap.size
theorem Tz.ext {w w' : World} (h : Tz w) (hX : Ext w w') : Tz w' := ⟨(hX.cell (p := ⟨5, 15, none⟩) h.lt).trans h.cell, Nat.lt_of_lt_of_le h.lt hX.size⟩
theorem formatUint_in (n : Nat) (hn : n < 18446744073709551616) (w : World) (ht : Tz w) :
    Calls Tryd.prog 44 #[.int .u64 n, .int .i64 16] w fun e w' => ∃ L, (L ≤ 16 ∧ n < 16 ^ L) ∧ e = .returned (str (hexDigs L n)) ∧ Ext w w' := by
  have HF := Lib.hid (formatBits_16 n hn w ht.cell ht.lt)
  clear ht
  go_enter Tryd.func44, Tryd.ntmps44
  go_wp2_with (go_at_call 67; (with_reducible refine HF.out.mono ?_); rintro e w1 ⟨L, hL, rfl, hX⟩)
  go_ret
  exact ⟨L, hL, rfl, hX⟩
theorem formatUint (n : Nat) (hn : n < 18446744073709551616) (w : World) (ht : Tz w) :
    Calls Tryd.prog 28 #[.int .u64 n, .int .i64 16] w fun e w' => ∃ L, (L ≤ 16 ∧ n < 16 ^ L) ∧ e = .returned (str (hexDigs L n)) ∧ Ext w w' := by
  have HF := Lib.hid (formatUint_in n hn w ht)
  clear ht
  go_enter Tryd.func28, Tryd.ntmps28
  go_wp2_with (go_at_call 44; (with_reducible refine HF.out.mono ?_); rintro e w1 ⟨L, hL, rfl, hX⟩)
  go_ret
  exact ⟨L, hL, rfl, hX⟩
theorem repeat_zeros (c : Nat) : Lib.repeatL [48] c = List.replicate c 48 := by
  induction c with
  | zero => rfl
  | succ c ih => rw [List.replicate_succ, ← ih]; rfl
theorem zeros (c : Nat) (hc : c ≤ 16) (w : World) : Calls Tryd.prog 29 #[str [48], .int .i64 c] w fun e w' => e = .returned (str (List.replicate c 48)) ∧ Ext w w' :=
  (Tryd.strings_Repeat ⟨#[48]⟩ c w (by omega) (by show 1 * c ≤ _; omega)).mono fun e w' ⟨h1, h2⟩ => ⟨by rw [h1]; exact congrArg (fun l => Ending.returned (str l)) (repeat_zeros c), h2⟩
theorem zeros' (L : Nat) (hL : L ≤ 16) (w : World) : Calls Tryd.prog 29 #[str [48], .int .i64 (16 - (L : Int))] w fun e w' => e = .returned (str (List.replicate (16 - L) 48)) ∧ Ext w w' := by
  have := zeros (16 - L) (by omega) w
  rwa [show (((16 - L : Nat)) : Int) = 16 - (L : Int) by omega] at this
theorem str3 (a b c : List UInt8) : ((⟨a.toArray⟩ : ByteArray) ++ (⟨b.toArray⟩ : ByteArray) ++ (⟨c.toArray⟩ : ByteArray)) = ⟨(a ++ (b ++ c)).toArray⟩ := by simp [ByteArray.mk_append_mk]
set_option maxRecDepth 100000 in
set_option maxHeartbeats 800000 in
theorem named_any (ahead : List UInt8) (ha : ahead.length ≤ 64) (n : Nat) (hn : n < 18446744073709551616) (w : World) (ht : Tz w) :
    Calls Tryd.prog 20 #[str ahead, .int .u64 n] w fun e w' => e = .returned (str (ahead ++ hexDigs 16 n)) ∧ Ext w w' := by
  have HF := Lib.hid (formatUint n hn w ht)
  clear ht
  go_enter Tryd.func20, Tryd.ntmps20
  go_wp2_with (go_at_call 28; (with_reducible refine HF.out.mono ?_); rintro e w1 ⟨L, hL, rfl, hX⟩; (have hl16 := hL.1); (have hlen := hexDigs_length L n); (obtain ⟨ds, hds⟩ : ∃ ds, ds = hexDigs L n := ⟨_, rfl⟩); rw [← hds] at hlen ⊢; (have HD := Lib.hid hds); clear hds)
  have HZ := Lib.hid (fun w => zeros' L hL.1 w)
  have HL := Lib.hid hL
  clear hL
  go_wp2_with (go_at_call 29; (with_reducible refine (HZ.out _).mono ?_); rintro e w2 ⟨rfl, hX2⟩)
  go_ret
  refine ⟨?_, Ext.trans' hX hX2⟩
  have he := hexDigs_zeros (16 - L) L n HL.out.2
  rw [show 16 - L + L = 16 by have := HL.out.1; omega] at he
  rw [he, ← HD.out]
  exact congrArg (fun b => Ending.returned (.string b)) (str3 ahead (List.replicate (16 - L) 48) ds)
abbrev tabT : List UInt8 := [116, 97, 98, 108, 101, 45]
abbrev logT : List UInt8 := [108, 111, 103, 45]
theorem tab_any (n : Nat) (hn : n < 18446744073709551616) (w : World) (ht : Tz w) : Calls Tryd.prog 9 #[.int .u64 n] w fun e w' => e = .returned (str (tabT ++ hexDigs 16 n)) ∧ Ext w w' := by
  have HF := Lib.hid (named_any tabT (by decide) n hn w ht)
  clear ht
  go_enter Tryd.func9, Tryd.ntmps9
  go_wp2_with (go_at_call 20; (with_reducible refine HF.out.mono ?_); rintro e w1 ⟨rfl, hX⟩)
  go_ret
  exact ⟨rfl, hX⟩
set_option maxRecDepth 100000 in
set_option maxHeartbeats 800000 in
theorem wal_name (n : Nat) (hn : n < 18446744073709551616) (w : World) (ht : Tz w) :
    Calls Tryd.prog 23 #[.int .u64 n] w fun e w' => e = .returned (str (logT ++ hexDigs 16 n)) ∧ Ext w w' := by
  have HF := Lib.hid (formatUint n hn w ht)
  clear ht
  go_enter Tryd.func23, Tryd.ntmps23
  go_wp2_with (go_at_call 28; (with_reducible refine HF.out.mono ?_); rintro e w1 ⟨L, hL, rfl, hX⟩; (have hl16 := hL.1); (have hlen := hexDigs_length L n); (obtain ⟨ds, hds⟩ : ∃ ds, ds = hexDigs L n := ⟨_, rfl⟩); rw [← hds] at hlen ⊢; (have HD := Lib.hid hds); clear hds)
  have HZ := Lib.hid (fun w => zeros' L hL.1 w)
  have HL := Lib.hid hL
  clear hL
  go_wp2_with (go_at_call 29; (with_reducible refine (HZ.out _).mono ?_); rintro e w2 ⟨rfl, hX2⟩)
  go_ret
  refine ⟨?_, Ext.trans' hX hX2⟩
  have he := hexDigs_zeros (16 - L) L n HL.out.2
  rw [show 16 - L + L = 16 by have := HL.out.1; omega] at he
  rw [he, ← HD.out]
  exact congrArg (fun b => Ending.returned (.string b)) (str3 logT (List.replicate (16 - L) 48) ds)

/-! ## the document's -/
section
variable {P : Program} {S : Nat → Prop} {w0 w : World} {l : List Res} {o : Oper} {a : Act} {K : Act → World → Prop} {Q : Exit → Act → World → Prop}
theorem wp_mkBox (M : Mem S w0 l w) (t e : TypeId) (x y : Operand) (ho : o.op = .makeSlice t x y) (i : TypeInfo) (z : Value) (ht : P.underlying t = some (.slice e)) (hi : P.info? e = some i) (hz : i.zero = some z) (n : Nat) (hx : a.eval x = .int .i64 n) (hy : a.eval y = .int .i64 n) (hc : n * i.size ≤ 16777216) (hb : (i.bytes : Int) * n ≤ 281474976710656)
    (cs : List Value) (hcs : madeCells z.cells (n * i.size) = cs.toArray) (hn : (n : Int) ≤ 9223372036854775807)
    (h : ∀ g w', Mem S w0 (bx g e cs :: l) w' → K (a.put o.dst (.slice (some ⟨g, 0, none⟩) n n)) w') : o.wp P a w K Q := by
  have M' := M.al e cs
  have hr := run_makeSlice (P := P) (w := w) t e i z ht hi hz .i64 .i64 n n (by omega) (by omega) (by simpa using hc) hb hn
  simp only [Int.toNat_natCast] at hr
  rw [hcs] at hr
  unfold Oper.wp execOp
  simp only [ho, hx, hy, Sem.run_bind, hr, Result.andThen_ok, Sem.run_pure]
  exact h _ _ M'
variable {dst : Option Tmp} {t ty : TypeId} {x y : Operand} {pos : String} {after : Array Edge} {gd : Option (Nat × Bool)}
theorem on_mk (h : (Oper.mk dst (.makeSlice t x y) ty pos after gd).wp P a w K Q) : (Oper.mk dst (.makeSlice t x y) ty pos after gd).wp P a w K Q := h
end
end Go.Proofs.YtmmaddmlfofgbaaDoor
