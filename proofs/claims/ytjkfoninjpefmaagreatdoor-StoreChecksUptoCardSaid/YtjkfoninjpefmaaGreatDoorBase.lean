/- Base of this seat's proofs: how slices, boxes and strings lie in memory, and how that is kept. No program in sight. -/
import Derived.Below
import Derived.Laws.OwnMore
import Derived.Laws.BytesString
import Derived.Laws.Cells
import Derived.Laws.Rows
import Derived.Laws.StructEq
import Derived.Deep.Draws
import Derived.Lib.Hide
import Derived.WalkKit
namespace Go.Proofs.YtjkfoninjpefmaaGreatDoor
set_option linter.unusedSimpArgs false
set_option linter.unusedVariables false
open Go.RowKit

/-- 2^64, behind a name -/
def M64 : Nat := 18446744073709551616

/-- a byte as a cell -/
def byteV (b : UInt8) : Value := .int .u8 (b.toNat : Int)

/-- a text as a value -/
abbrev str (l : List UInt8) : Value := .string ⟨l.toArray⟩

theorem str_data (s : ByteArray) : Value.string s = str s.data.toList := rfl

/-- everything that lay below the world's size is as it was -/
abbrev Ext (w w' : World) : Prop := Below w.heap.size w w'

theorem Ext.trans' {a b c : World} (h : Ext a b) (k : Ext b c) : Ext a c := Below.trans h (k.mono h.size)
theorem _root_.Go.RowKit.Below.trans' {a b c : World} (h : Ext a b) (k : Ext b c) : Ext a c := Ext.trans' h k
theorem Ext.from {B : Nat} {a b c : World} (h : Below B a b) (hB : B ≤ b.heap.size) (k : Ext b c) : Below B a c := Below.trans h (k.mono hB)

theorem Ext.al (w : World) (o : Obj) : Ext w (w.alloc o) := (Below.refl _ _).alloc (Nat.le_refl _) o
theorem Ext.dr (w : World) : Ext w w.drew := (Below.refl _ _).drew
theorem below_drewN' {B : Nat} (w : World) (n : Nat) : Below B w (w.drewN n) := ⟨rfl, rfl, rfl, Nat.le_refl _, fun _ _ => rfl⟩
theorem Ext.below {B : Nat} {a b : World} (h : Ext a b) (hB : B ≤ a.heap.size) : Below B a b := h.mono hB

theorem bcell {W w1 : World} (hb : Ext W w1) : (∀ b o, b < W.heap.size → w1.cell? ⟨b, o, none⟩ = W.cell? ⟨b, o, none⟩) ∧ (∀ b o, b < W.heap.size → w1.frozen? ⟨b, o, none⟩ = W.frozen? ⟨b, o, none⟩) :=
  ⟨fun b o h => hb.cell (p := ⟨b, o, none⟩) h, fun b o h => hb.frozen (p := ⟨b, o, none⟩) h⟩

/-- the cells of a slice value, flat: `xs` are the cells of its `n` elements, `sz` cells each; they lie in a block from `lo` on, below `hi` -/
structure Row (w : World) (lo hi sz : Nat) (A : Option Addr) (n : Nat) (xs : List Value) : Prop where
  len : xs.length = n * sz
  mem : 0 < n → ∃ b off, A = some ⟨b, off, none⟩ ∧ lo ≤ b ∧ b < hi ∧ ∀ j u, xs[j]? = some u → w.cell? ⟨b, off + j, none⟩ = some u

namespace Row
variable {w w' : World} {lo hi lo' hi' sz n : Nat} {A : Option Addr} {xs : List Value}
theorem nil_ : Row w lo hi sz none 0 [] := ⟨by simp, fun h => absurd h (by omega)⟩
theorem keep (h : Row w lo hi sz A n xs) (hk : ∀ b, lo ≤ b → b < hi → w'.heap[b]? = w.heap[b]?) : Row w' lo hi sz A n xs :=
  ⟨h.len, fun hn => by
    obtain ⟨b, off, e, h1, h2, hc⟩ := h.mem hn
    exact ⟨b, off, e, h1, h2, fun j u hu => (World.cell?_of_block (w := w) (a := ⟨b, off + j, none⟩) (hk b h1 h2)).trans (hc j u hu)⟩⟩
theorem wide (h : Row w lo hi sz A n xs) (h1 : lo' ≤ lo) (h2 : hi ≤ hi') : Row w lo' hi' sz A n xs :=
  ⟨h.len, fun hn => by
    obtain ⟨b, off, e, a1, a2, hc⟩ := h.mem hn
    exact ⟨b, off, e, by omega, by omega, hc⟩⟩
theorem below {B : Nat} (h : Row w lo hi sz A n xs) (hb : Below B w w') (hB : hi ≤ B) : Row w' lo hi sz A n xs := h.keep fun b _ h2 => hb.block b (by omega)
theorem ext (h : Row w lo hi sz A n xs) (hb : Ext w w') (hB : hi ≤ w.heap.size) : Row w' lo hi sz A n xs := h.below hb hB
theorem alloc (h : Row w lo hi sz A n xs) (hB : hi ≤ w.heap.size) (o : Obj) : Row (w.alloc o) lo hi sz A n xs := h.keep fun b _ h2 => Below.heap_alloc w o b (by omega)
theorem drew (h : Row w lo hi sz A n xs) : Row w.drew lo hi sz A n xs := h.keep fun _ _ _ => rfl
theorem drewN (h : Row w lo hi sz A n xs) (k : Nat) : Row (w.drewN k) lo hi sz A n xs := h.keep fun _ _ _ => rfl
theorem setCell (h : Row w lo hi sz A n xs) {p : Addr} (hp : p.block < lo ∨ hi ≤ p.block) (u : Value) : Row (w.setCell p u) lo hi sz A n xs :=
  h.keep fun b h1 h2 => Below.heap_setCell w p u b (by omega)
theorem grown (h : Row w lo hi sz A n xs) {row : Option Nat} (hg : w.grownBy w' row) (hB : hi ≤ w.heap.size) (hr : ∀ g, row = some g → g < lo ∨ hi ≤ g) : Row w' lo hi sz A n xs :=
  h.keep fun b h1 h2 => hg.block b (by omega) (fun e => by have := hr b e.symm; omega)
/-- what an owned row holds -/
theorem of_own {base : Nat} {e : TypeId} {c : Nat} (h : w.ownsRow base e sz (.slice A n c) n xs) : Row w base w.heap.size sz A n xs := by
  refine ⟨h.1, fun hn => ?_⟩
  rcases h.2 with ⟨_, h0⟩ | ⟨g, cap, cur, hv, hb, hg, _, _, _, _⟩
  · omega
  · have hA : A = some ⟨g, 0, none⟩ := by injection hv
    subst hA
    refine ⟨g, 0, rfl, hb, (Array.getElem?_eq_some_iff.1 hg).1, fun j u hu => ?_⟩
    have := h.cells (g := g) rfl j u hu
    rwa [show ((⟨g, 0, none⟩ : Addr).add j) = ⟨g, 0 + j, none⟩ by unfold Addr.add; split <;> simp_all] at this
end Row

/-- a slice value of an owned row has the owned form -/
theorem own_form {w : World} {base : Nat} {e : TypeId} {sz n : Nat} {v : Value} {xs : List Value} (h : w.ownsRow base e sz v n xs) : ∃ A c, v = .slice A n c := by
  rcases h.2 with ⟨rfl, rfl⟩ | ⟨g, cap, cur, rfl, _⟩
  · exact ⟨none, 0, rfl⟩
  · exact ⟨_, cap, rfl⟩

/-- an element of a slice whose elements are written as cells by a plain function -/
theorem getElem?_flatMap {α β : Type} {f : α → List β} {sz : Nat} (hf : ∀ x, (f x).length = sz) : ∀ (l : List α) (k j : Nat), j < sz → (l.flatMap f)[k * sz + j]? = (l[k]?).bind fun x => (f x)[j]?
  | [], k, j, _ => by simp
  | x :: l, 0, j, hj => by
    simp only [List.flatMap_cons, Nat.zero_mul, Nat.zero_add]
    rw [List.getElem?_append_left (by rw [hf]; exact hj)]
    simp
  | x :: l, k + 1, j, hj => by
    simp only [List.flatMap_cons]
    rw [List.getElem?_append_right (by rw [hf, Nat.succ_mul]; omega), hf, show (k + 1) * sz + j - sz = k * sz + j by rw [Nat.succ_mul]; omega, getElem?_flatMap hf l k j hj]
    simp

theorem length_flatMap' {α β : Type} {f : α → List β} {sz : Nat} (hf : ∀ x, (f x).length = sz) (l : List α) : (l.flatMap f).length = l.length * sz := by
  induction l with
  | nil => simp
  | cons x l ih => rw [List.flatMap_cons, List.length_append, hf, ih, List.length_cons, Nat.succ_mul, Nat.add_comm]

theorem flatMap_snoc {α β : Type} (f : α → List β) (l : List α) (x : α) : (l ++ [x]).flatMap f = l.flatMap f ++ f x := by simp

/-- the cells of element k of a slice of such elements -/
theorem Row.elem {α : Type} {f : α → List Value} {w : World} {lo hi sz : Nat} {A : Option Addr} {n : Nat} {l : List α} (h : Row w lo hi sz A n (l.flatMap f)) (hf : ∀ x, (f x).length = sz) (hn : n = l.length) {k : Nat} {x : α}
    (hk : l[k]? = some x) : ∃ b off, A = some ⟨b, off, none⟩ ∧ lo ≤ b ∧ b < hi ∧ ∀ j u, (f x)[j]? = some u → w.cell? ⟨b, off + k * sz + j, none⟩ = some u := by
  have hkl : k < l.length := (List.getElem?_eq_some_iff.1 hk).1
  obtain ⟨b, off, e, h1, h2, hc⟩ := h.mem (by omega)
  refine ⟨b, off, e, h1, h2, fun j u hu => ?_⟩
  have hj : j < sz := by rw [← hf x]; exact (List.getElem?_eq_some_iff.1 hu).1
  have := hc (k * sz + j) u (by rw [getElem?_flatMap hf l k j hj, hk]; exact hu)
  rwa [← Nat.add_assoc] at this

/-- block g holds just these cells, none of them frozen -/
def Box (w : World) (g : Nat) (t : TypeId) (cs : Array Value) : Prop := w.heap[g]? = some (.cells cs t (0, 0))
namespace Box
variable {w w' : World} {g : Nat} {t : TypeId} {cs : Array Value}
theorem lt (h : Box w g t cs) : g < w.heap.size := (Array.getElem?_eq_some_iff.1 h).1
theorem cell (h : Box w g t cs) (i : Nat) : w.cell? ⟨g, i, none⟩ = cs[i]? := cell_of_row w g i cs t (0, 0) h
theorem frozen (h : Box w g t cs) (i : Nat) : w.frozen? ⟨g, i, none⟩ = false := by
  unfold Box at h
  simp [World.frozen?, h]
theorem new (w : World) (t : TypeId) (cs : Array Value) : Box (w.alloc (.cells cs t)) w.heap.size t cs := heap_alloc_new w _
theorem new_at (w : World) (t : TypeId) (cs : Array Value) (b : Nat) (hb : b = w.heap.size) : Box (w.alloc (.cells cs t)) b t cs := by subst hb; exact new w t cs
theorem new_drew (w : World) (t : TypeId) (cs : Array Value) (b : Nat) (hb : b = w.heap.size) : Box (w.alloc (.cells cs t)).drew b t cs := by subst hb; exact new w t cs
theorem keep (h : Box w g t cs) (hk : w'.heap[g]? = w.heap[g]?) : Box w' g t cs := hk.trans h
theorem alloc (h : Box w g t cs) (o : Obj) : Box (w.alloc o) g t cs := h.keep (Below.heap_alloc w o g h.lt)
theorem below {B : Nat} (h : Box w g t cs) (hb : Below B w w') (hg : g < B) : Box w' g t cs := h.keep (hb.block g hg)
theorem ext (h : Box w g t cs) (hb : Ext w w') : Box w' g t cs := h.below hb h.lt
theorem grown {row : Option Nat} (h : Box w g t cs) (hb : w.grownBy w' row) (hg : some g ≠ row) : Box w' g t cs := h.keep (hb.block g h.lt hg)
theorem put (h : Box w g t cs) (i : Nat) (u : Value) : Box (w.setCell ⟨g, i, none⟩ u) g t (cs.setIfInBounds i u) := by
  unfold Box at h ⊢
  simp [World.setCell, Array.getElem?_modify, h]
theorem far (h : Box w g t cs) {p : Addr} (hp : g ≠ p.block) (u : Value) : Box (w.setCell p u) g t cs := h.keep (Below.heap_setCell w p u g hp)
end Box

theorem foldl_push_bytes : ∀ (l : List UInt8) (s : List UInt8), (l.map fun b => (b.toNat : Int)).foldl (fun (r : ByteArray) n => r.push (UInt8.ofNat n.toNat)) ⟨s.toArray⟩ = ⟨(s ++ l).toArray⟩
  | [], s => by simp
  | b :: l, s => by
    simp only [List.map_cons, List.foldl_cons]
    have e : (ByteArray.push ⟨s.toArray⟩ (UInt8.ofNat ((b.toNat : Int).toNat))) = ⟨(s ++ [b]).toArray⟩ := by
      simp [ByteArray.push]
    rw [e, foldl_push_bytes l (s ++ [b])]
    simp

/-- string(b) of a slice of bytes -/
theorem run_string_row {P : Program} (w : World) (src dst e : TypeId) (hs : P.underlying src = some (.slice e)) (he : P.underlying e = some (.int .u8)) (hd : P.underlying dst = some .string)
    {lo hi : Nat} {A : Option Addr} {n : Nat} {l : List UInt8} (h : Row w lo hi 1 A n (l.map byteV)) (c : Nat) : (convert src dst (.slice A n c)).run P w = .ok (str l) w := by
  rw [run_convert_bytes_string w src dst e A n c hs he hd]
  have hl : l.length = n := by simpa using h.len
  rcases Nat.eq_zero_or_pos n with h0 | h0
  · subst h0
    have hl0 : l = [] := List.eq_nil_of_length_eq_zero hl
    subst hl0
    cases A with
    | none => simp [Conv.bytesToString]; rfl
    | some a =>
      have := run_bytesToString (P := P) w a 0 c [] (by simpa using run_loadCells_list (P := P) w a [] (by simp))
      rw [this]; rfl
  · obtain ⟨b, off, rfl, _, _, hc⟩ := h.mem h0
    have h1 : (loadCells ⟨b, off, none⟩ n).run P w = .ok ((l.map fun b => (b.toNat : Int)).map (Value.int .u8)).toArray w := by
      have := run_loadCells_list (P := P) w ⟨b, off, none⟩ (l.map byteV) (fun j v hv => by
        rw [show ((⟨b, off, none⟩ : Addr).add j) = ⟨b, off + j, none⟩ by unfold Addr.add; split <;> simp_all]
        exact hc j v hv)
      rw [List.length_map, hl] at this
      rw [this]
      simp [byteV, Function.comp_def]
    rw [run_bytesToString (P := P) w _ n c _ h1]
    have := foldl_push_bytes l []
    simp only [List.nil_append] at this
    show Result.ok (Value.string (List.foldl (fun (r : ByteArray) (n : Int) => r.push (UInt8.ofNat n.toNat)) (⟨#[]⟩ : ByteArray) _)) w = _
    rw [this]

/-- bytes as cells, one each -/
def byteC (b : UInt8) : List Value := [byteV b]
theorem byteC_len (b : UInt8) : (byteC b).length = 1 := rfl
theorem flatMap_byteC (l : List UInt8) : l.flatMap byteC = l.map byteV := by
  induction l with
  | nil => rfl
  | cons b l ih => simp [byteC, ih]

/-- what the laws on append and make ask of a slice's element type -/
structure ElemOf (P : Program) (t e : TypeId) (sz bytes : Nat) : Prop where
  under : P.underlying t = some (.slice e)
  info : ∃ i z, P.info? e = some i ∧ i.zero = some z ∧ i.size = sz ∧ i.bytes = bytes ∧ z.cells.size = sz
  pos : 0 < sz

theorem elemOf_mk {P : Program} {t e : TypeId} {z : Value} {sz bytes : Nat} (ht : P.underlying t = some (.slice e)) (h : (P.info? e).map (fun i => (i.zero, i.size, i.bytes)) = some (some z, sz, bytes)) (hz : z.cells.size = sz) (hp : 0 < sz) : ElemOf P t e sz bytes := by
  obtain ⟨i, h1, h2, h3, h4⟩ := info_parts h
  exact ⟨ht, ⟨i, z, h1, h2, h3, h4, hz⟩, hp⟩

/-- an owned slice: the slice value (A, length, c) holds the elements l, written as cells by f, in a block of the call's own, from `base` on -/
def Own {α : Type} (w : World) (base : Nat) (e : TypeId) (f : α → List Value) (sz : Nat) (A : Option Addr) (c : Nat) (l : List α) : Prop :=
  w.ownsRow base e sz (.slice A l.length c) l.length (l.flatMap f)

def ownBlk : Option Addr → Option Nat | some a => some a.block | none => none

namespace Own
variable {α : Type} {w w' : World} {base : Nat} {e : TypeId} {f : α → List Value} {sz : Nat} {A : Option Addr} {c : Nat} {l : List α}
theorem nil_ : Own w base e f sz none 0 [] := World.ownsRow_nil w base e sz
theorem row (h : Own w base e f sz A c l) : Row w base w.heap.size sz A l.length (l.flatMap f) := Row.of_own h
theorem blk (h : Own w base e f sz A c l) : ∀ g, ownBlk A = some g → base ≤ g ∧ g < w.heap.size := fun g hg => World.ownsRow.lt h g (by cases A with | none => cases hg | some a => exact hg)
theorem keep (h : Own w base e f sz A c l) (hk : ∀ b, base ≤ b → b < w.heap.size → w'.heap[b]? = w.heap[b]?) : Own w' base e f sz A c l := by
  obtain ⟨h1, h2⟩ := h
  refine ⟨h1, ?_⟩
  rcases h2 with h2 | ⟨g, cap, cur, hv, hg, hh, r⟩
  · exact .inl h2
  · exact .inr ⟨g, cap, cur, hv, hg, (hk g hg (Array.getElem?_eq_some_iff.1 hh).1).trans hh, r⟩
theorem ext (h : Own w base e f sz A c l) (hb : Ext w w') : Own w' base e f sz A c l := h.keep fun b _ h2 => hb.block b h2
theorem alloc (h : Own w base e f sz A c l) (o : Obj) : Own (w.alloc o) base e f sz A c l := h.keep fun b _ h2 => Below.heap_alloc w o b h2
theorem grown (h : Own w base e f sz A c l) {row : Option Nat} (hg : w.grownBy w' row) (hne : ∀ g, row = some g → ownBlk A ≠ some g) : Own w' base e f sz A c l := by
  refine World.ownsRow.kept h hg ?_
  cases A with
  | none => exact .inl rfl
  | some a =>
    refine .inr fun e => ?_
    exact hne a.block (by rw [← e]; rfl) rfl
theorem setCell (h : Own w base e f sz A c l) {p : Addr} (hp : ownBlk A ≠ some p.block) (u : Value) : Own (w.setCell p u) base e f sz A c l :=
  h.grown (row := some p.block) ⟨rfl, rfl, rfl, by simp [World.setCell], fun k _ hk => Below.heap_setCell w p u k (fun e => hk (by rw [e]))⟩ (by intro g hg; cases hg; exact hp)
end Own

/-- below its base nothing turns when an owned slice is pushed onto -/
theorem Own.below_push {α : Type} {w0 w w1 : World} {B base : Nat} {e : TypeId} {f : α → List Value} {sz : Nat} {A : Option Addr} {c : Nat} {l : List α} {o : Obj} (h : Own w base e f sz A c l) (hb : Below B w0 w) (hBb : B ≤ base) (hB : B ≤ w.heap.size)
    (hg : (w.alloc o).grownBy w1 (ownBlk A)) : Below B w0 w1 :=
  (hb.alloc hB o).grown hg (by simp; omega) fun g e => by have := h.blk g e; omega

/-- string(b) of an owned slice of bytes -/
theorem Own.string {P : Program} {w : World} {src dst e : TypeId} (hs : P.underlying src = some (.slice e)) (he : P.underlying e = some (.int .u8)) (hd : P.underlying dst = some .string)
    {base : Nat} {A : Option Addr} {c n : Nat} {l : List UInt8} (h : Own w base e byteC 1 A c l) (hn : n = l.length) : (convert src dst (.slice A n c)).run P w = .ok (str l) w := by
  subst hn
  exact run_string_row w src dst e hs he hd (by rw [← flatMap_byteC]; exact h.row) c

/-- the bytes that cells hold -/
def bytesIn (cs : List Value) : List UInt8 := cs.map fun | .int _ n => UInt8.ofNat n.toNat | _ => 0
theorem bytesIn_length (cs : List Value) : (bytesIn cs).length = cs.length := by simp [bytesIn]
theorem foldl_push_ints : ∀ (ns : List Int) (s : List UInt8), ns.foldl (fun (r : ByteArray) n => r.push (UInt8.ofNat n.toNat)) ⟨s.toArray⟩ = ⟨(s ++ ns.map fun n => UInt8.ofNat n.toNat).toArray⟩
  | [], s => by simp
  | b :: l, s => by
    simp only [List.map_cons, List.foldl_cons]
    have e : (ByteArray.push ⟨s.toArray⟩ (UInt8.ofNat (b.toNat))) = ⟨(s ++ [UInt8.ofNat b.toNat]).toArray⟩ := by
      simp [ByteArray.push]
    rw [e, foldl_push_ints l]
    simp
/-- string(b) of a block of bytes that is known whole -/
theorem run_string_new {P : Program} {src dst e : TypeId} (hs : P.underlying src = some (.slice e)) (he : P.underlying e = some (.int .u8)) (hd : P.underlying dst = some .string)
    (w : World) (cs : List Value) (e' : TypeId) (b n c : Nat) (hbw : b = w.heap.size) (hcs : ∀ v ∈ cs, ∃ x, v = .int .u8 x) (hn : n = cs.length) :
    (convert src dst (.slice (some ⟨b, 0, none⟩) n c)).run P (w.alloc (.cells cs.toArray e')) = .ok (str (bytesIn cs)) (w.alloc (.cells cs.toArray e')) := by
  subst hbw
  rw [run_convert_bytes_string _ src dst e _ n c hs he hd]
  have h0 : ∃ ns : List Int, cs = ns.map (Value.int .u8) := by
    clear hn
    induction cs with
    | nil => exact ⟨[], rfl⟩
    | cons v cs ih =>
      obtain ⟨x, rfl⟩ := hcs v (by simp)
      obtain ⟨ns, rfl⟩ := ih (fun u hu => hcs u (by simp [hu]))
      exact ⟨x :: ns, rfl⟩
  obtain ⟨ns, rfl⟩ := h0
  have h1 := run_loadCells_list (P := P) (w.alloc (.cells (ns.map (Value.int .u8)).toArray e')) ⟨w.heap.size, 0, none⟩ (ns.map (Value.int .u8)) (fun j v hv => by
    rw [show ((⟨w.heap.size, 0, none⟩ : Addr).add j) = ⟨w.heap.size, j, none⟩ by unfold Addr.add; split <;> simp_all]
    rw [Box.cell (Box.new w e' _)]
    simpa using hv)
  rw [List.length_map] at h1
  rw [hn, List.length_map, run_bytesToString (P := P) _ _ _ c ns h1]
  have := foldl_push_ints ns []
  simp only [List.nil_append] at this
  show Result.ok (Value.string (List.foldl (fun (r : ByteArray) (n : Int) => r.push (UInt8.ofNat n.toNat)) (⟨#[]⟩ : ByteArray) _)) _ = _
  rw [this]
  simp [bytesIn, Function.comp_def]

theorem run_string_new_drew {P : Program} {src dst e : TypeId} (hs : P.underlying src = some (.slice e)) (he : P.underlying e = some (.int .u8)) (hd : P.underlying dst = some .string)
    (w : World) (cs : List Value) (e' : TypeId) (b n c : Nat) (hbw : b = w.heap.size) (hcs : ∀ v ∈ cs, ∃ x, v = .int .u8 x) (hn : n = cs.length) :
    (convert src dst (.slice (some ⟨b, 0, none⟩) n c)).run P (w.alloc (.cells cs.toArray e')).drew = .ok (str (bytesIn cs)) (w.alloc (.cells cs.toArray e')).drew :=
  run_string_new hs he hd w.drew cs e' b n c hbw hcs hn

theorem bytes_ints {cs : List Value} (hcs : ∀ v ∈ cs, ∃ x, v = .int .u8 x) : ∃ ns : List Int, cs = ns.map (Value.int .u8) := by
  induction cs with
  | nil => exact ⟨[], rfl⟩
  | cons v cs ih =>
    obtain ⟨x, rfl⟩ := hcs v (by simp)
    obtain ⟨ns, rfl⟩ := ih (fun u hu => hcs u (by simp [hu]))
    exact ⟨x :: ns, rfl⟩
/-- .. that was laid earlier -/
theorem Box.string {P : Program} {src dst e : TypeId} (hs : P.underlying src = some (.slice e)) (he : P.underlying e = some (.int .u8)) (hd : P.underlying dst = some .string)
    {w : World} {cs : List Value} {b : Nat} {e' : TypeId} (h : Box w b e' cs.toArray) (hcs : ∀ v ∈ cs, ∃ x, v = .int .u8 x) (n c : Nat) (hn : n = cs.length) :
    (convert src dst (.slice (some ⟨b, 0, none⟩) n c)).run P w = .ok (str (bytesIn cs)) w := by
  rw [run_convert_bytes_string _ src dst e _ n c hs he hd]
  obtain ⟨ns, rfl⟩ := bytes_ints hcs
  have h1 := run_loadCells_list (P := P) w ⟨b, 0, none⟩ (ns.map (Value.int .u8)) (fun j v hv => by
    rw [show ((⟨b, 0, none⟩ : Addr).add j) = ⟨b, j, none⟩ by unfold Addr.add; split <;> simp_all]
    rw [h.cell]
    simpa using hv)
  rw [List.length_map] at h1
  rw [hn, List.length_map, run_bytesToString (P := P) _ _ _ c ns h1]
  have := foldl_push_ints ns []
  simp only [List.nil_append] at this
  show Result.ok (Value.string (List.foldl (fun (r : ByteArray) (n : Int) => r.push (UInt8.ofNat n.toNat)) (⟨#[]⟩ : ByteArray) _)) _ = _
  rw [this]
  simp [bytesIn, Function.comp_def]

theorem cells_new (w : World) (cs : List Value) (t : TypeId) : ∀ j u, cs[j]? = some u → (w.alloc (.cells cs.toArray t)).cell? ((⟨w.heap.size, 0, none⟩ : Addr).add j) = some u := by
  intro j u hu
  rw [show ((⟨w.heap.size, 0, none⟩ : Addr).add j) = ⟨w.heap.size, j, none⟩ by unfold Addr.add; split <;> simp_all]
  rw [Box.cell (Box.new w t cs.toArray)]
  simpa using hu

/-- `v = append(v, x)`: one element, laid in a block of its own just before -/
theorem wpList_push {P : Program} {ops : Array Oper} {rest : List Oper} {o : Oper} {a : Act} {Q : Exit → Act → World → Prop} {w : World} {t e : TypeId} {sz bytes : Nat} (E : ElemOf P t e sz bytes) (hgd : o.guard = none) (s x : Operand)
    (ho : o.op = .call { callee := .builtin .append, args := #[s, x], argTypes := #[t, t] })
    {α : Type} {f : α → List Value} {base : Nat} {A : Option Addr} {c n : Nat} {l : List α} (y : α) (hn : n = l.length) (hown : Own w base e f sz A c l) (hs : a.eval s = .slice A n c)
    (hx : a.eval x = .slice (some ⟨w.heap.size, 0, none⟩) 1 1) {cs : List Value} (hcs : cs = f y) (hl : (f y).length = sz) (h1 : ∀ u ∈ f y, u.oneCell' = true)
    (hsmall : (l.length + 1) * bytes ≤ 140737488355328) (hlen : l.length + 1 ≤ 140737488355328) (hbase : base ≤ w.heap.size)
    (h : ∀ A' c' w', Own w' base e f sz A' c' (l ++ [y]) → (w.alloc (.cells cs.toArray e)).grownBy w' (ownBlk A) → wpList P ops Q rest (a.put o.dst (.slice A' (l.length + 1) c')) w') :
    wpList P ops Q (o :: rest) a (w.alloc (.cells cs.toArray e)) := by
  subst hn
  subst hcs
  obtain ⟨i, z, hi, hz, hsz, hby, hzs⟩ := E.info
  refine wpList_append_own _ hgd s x t ho base e i z sz bytes E.under hi hz hsz hby hzs E.pos (.slice A l.length c) l.length (l.flatMap f) hs (World.ownsRow.alloc hown _)
    ⟨w.heap.size, 0, none⟩ 1 1 (f y) hx (by rw [hl, Nat.one_mul]) (cells_new w (f y) e) h1 (by unfold maxLen; omega) hsmall (by simp; omega) ?_
  intro v' w' hown' hg _
  obtain ⟨A', c', rfl⟩ := own_form hown'
  refine h A' c' w' ?_ ?_
  · unfold Own
    rw [flatMap_snoc, show (l ++ [y]).length = l.length + 1 by simp]
    exact hown'
  · have : Value.ownBlock (.slice A l.length c) = ownBlk A := by cases A <;> rfl
    rw [← this]; exact hg

end Go.Proofs.YtjkfoninjpefmaaGreatDoor
