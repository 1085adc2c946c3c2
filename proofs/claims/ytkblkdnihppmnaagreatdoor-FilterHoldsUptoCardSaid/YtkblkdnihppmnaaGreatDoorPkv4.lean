/- Parts of this work, one behind the other: FiltW2. -/
import Derived.Test.YtkblkdnihppmnaaGreatDoorShelfF
import Derived.Lib.AtoiErrMem
import Derived.Test.YtkblkdnihppmnaaGreatDoorPkv3
import Derived.Test.YtkblkdnihppmnaaGreatDoorPkv1
/- Filters (layer 21): the program's tokens (walk, second part: numbers; the library's variables). -/
namespace Go.Proofs.YtkblkdnihppmnaaGreatDoor
set_option linter.unusedSimpArgs false
set_option linter.unusedVariables false
open Go.RowKit Res Filt

/-- the library's variables that numbers lean on -/
structure Nv (w : World) : Prop where
  syn : ∃ t v, w.cell? ⟨0, 0, none⟩ = some (.iface t v)
  rng : ∃ t v, w.cell? ⟨1, 0, none⟩ = some (.iface t v)
  lt : 0 < w.heap.size ∧ 1 < w.heap.size
  tab : Lib.TabIs Tryz.prog w "internal/strconv.uint64pow10" .u64 Lib.pow10Tab
  sp : Lib.TabIs Tryz.prog w "strings.asciiSpace" .u8 Lib.asciiSpaceTab
theorem tabIs_keep {w w' : World} {n : String} {k : IntKind} {zs : List Int} {g : Nat} (h : Lib.TabIs Tryz.prog w n k zs) (hg : Tryz.prog.globalNamed n = some g) (hb : w'.heap[g]? = w.heap[g]?) : Lib.TabIs Tryz.prog w' n k zs := by
  unfold Lib.TabIs World.var? at h ⊢
  rw [hg] at h ⊢
  simp only [Option.bind_some] at h ⊢
  rw [hb]
  exact h
theorem tabIs_lt {w : World} {n : String} {k : IntKind} {zs : List Int} {g : Nat} (h : Lib.TabIs Tryz.prog w n k zs) (hg : Tryz.prog.globalNamed n = some g) : g < w.heap.size := by
  rcases Nat.lt_or_ge g w.heap.size with h' | h'
  · exact h'
  · exfalso
    unfold Lib.TabIs World.var? at h
    rw [hg] at h
    simp [Array.getElem?_eq_none h'] at h
theorem Nv.keep {w w' : World} (h : Nv w) (hs : w.heap.size ≤ w'.heap.size) (hb : ∀ g, g < Tryz.prog.globals.size → w'.heap[g]? = w.heap[g]?) : Nv w' := by
  obtain ⟨⟨t, v, h1⟩, ⟨t', v', h2⟩, ⟨h3, h4⟩, h5, h6⟩ := h
  have g1 : 0 < Tryz.prog.globals.size := of_decide_eq_true (by kernel_rfl)
  have g2 : 1 < Tryz.prog.globals.size := of_decide_eq_true (by kernel_rfl)
  have g3 : 2 < Tryz.prog.globals.size := of_decide_eq_true (by kernel_rfl)
  have g4 : 6 < Tryz.prog.globals.size := of_decide_eq_true (by kernel_rfl)
  refine ⟨⟨t, v, ?_⟩, ⟨t', v', ?_⟩, ⟨by omega, by omega⟩, tabIs_keep h5 (by kernel_rfl) (hb _ g3), tabIs_keep h6 (by kernel_rfl) (hb _ g4)⟩
  · rw [← h1]; exact World.cell?_of_block (a := ⟨0, 0, none⟩) (hb _ g1)
  · rw [← h2]; exact World.cell?_of_block (a := ⟨1, 0, none⟩) (hb _ g2)
theorem Nv.ext {w w' : World} (h : Nv w) (hX : Ext w w') : Nv w' := by
  have hl := tabIs_lt h.sp (g := 6) (by kernel_rfl)
  refine ⟨?_, ?_, ⟨Nat.lt_of_lt_of_le h.lt.1 hX.size, Nat.lt_of_lt_of_le h.lt.2 hX.size⟩, tabIs_keep h.tab (g := 2) (by kernel_rfl) (hX.block _ (tabIs_lt h.tab (by kernel_rfl))), tabIs_keep h.sp (g := 6) (by kernel_rfl) (hX.block _ hl)⟩
  · obtain ⟨t, v, h1⟩ := h.syn
    exact ⟨t, v, (hX.cell (p := ⟨0, 0, none⟩) h.lt.1).trans h1⟩
  · obtain ⟨t, v, h1⟩ := h.rng
    exact ⟨t, v, (hX.cell (p := ⟨1, 0, none⟩) h.lt.2).trans h1⟩
def ParsePost (l : List UInt8) (w : World) (e : Ending) (w' : World) : Prop :=
  Ext w w' ∧ ((∃ v, Lib.parseIntB 64 l = .ok v ∧ e = .returned (.tuple #[.int .i64 v, .nilIface])) ∨ ((∀ v, Lib.parseIntB 64 l ≠ .ok v) ∧ ∃ v t x, e = .returned (.tuple #[.int .i64 v, .iface t x])))
theorem parseInt_any (l : List UInt8) (hl : l.length ≤ 1048576) (w : World) (hN : Nv w) : Calls Tryz.prog 34 #[str l, .int .i64 10, .int .i64 64] w (ParsePost l w) := by
  have hs : (⟨l.toArray⟩ : ByteArray).size ≤ 1048576 := by show l.toArray.size ≤ _; simpa using hl
  obtain ⟨⟨t, v, h1⟩, ⟨t', v', h2⟩, h3, h5, h6⟩ := hN
  cases hp : Lib.parseIntB 64 l with
  | ok v =>
    refine (Tryz.strconv_ParseInt_10_at64_ok ⟨l.toArray⟩ (by omega) v (by simpa using hp) w).mono fun e w' ⟨he, hw⟩ => ⟨?_, .inl ⟨v, hp, he⟩⟩
    rcases hw with rfl | ⟨t, rfl⟩
    · exact Below.refl _ _
    · exact Lib.bytesWorld_below _ _ _
  | _ =>
    first
      | exact (Tryz.strconv_ParseInt_10_at64_range ⟨l.toArray⟩ (by omega) (by simpa using hp) _ w h2 (.inr ⟨_, _, rfl⟩)).mono fun e w' ⟨N, h⟩ => ⟨h.2.2.2, .inr ⟨fun v => by rw [hp]; simp, _, _, _, h.1⟩⟩
      | exact (show Calls Tryz.prog 34 #[str l, .int .i64 10, .int .i64 64] w fun e w' => ∃ N, e = .returned (.tuple #[.int .i64 0, .iface 93 (.pointer (some ⟨N, 0, none⟩))]) ∧ w.heap.size ≤ N ∧ w'.heap[N]? = some (.cells #[.string ⟨#[80, 97, 114, 115, 101, 73, 110, 116]⟩, str l, .iface t v] 105 (0, 0)) ∧ Below w.heap.size w w' from Tryz.strconv_ParseInt_10_at64_syntax ⟨l.toArray⟩ (by omega) (show Lib.parseIntB 64 l = Lib.parseIntB 64 [] from hp) _ w h1 (.inr ⟨_, _, rfl⟩)).mono fun e w' ⟨N, h⟩ => ⟨h.2.2.2, .inr ⟨fun v => by rw [hp]; simp, _, _, _, h.1⟩⟩
theorem grow_ext (w : World) (k : Nat) (os : Array Obj) : Ext w (Sort.grow (w.drewN k) os) := by
  refine ⟨rfl, rfl, rfl, ?_, fun b hb => ?_⟩
  · show w.heap.size ≤ (w.heap ++ os).size
    rw [Array.size_append]
    exact Nat.le_add_right _ _
  · show (w.heap ++ os)[b]? = w.heap[b]?
    rw [Array.getElem?_append_left hb]
theorem formatInt_any (n : Int) (hn : I64 n) (w : World) (hN : Nv w) : Calls Tryz.prog 35 #[.int .i64 n, .int .i64 10] w fun e w' => e = .returned (str (Lib.itoa n)) ∧ Ext w w' :=
  (Tryz.strconv_FormatInt_10 n hn.1 hn.2 w hN.tab).mono fun e w' ⟨h1, k, os, h2⟩ => ⟨h1, by rw [h2]; exact grow_ext w k os⟩
theorem parse_i64 {l : List UInt8} {v : Int} (h : Lib.parseIntB 64 l = .ok v) : I64 v := by
  unfold Lib.parseIntB at h
  unfold I64
  cases l with
  | nil => cases h
  | cons c r =>
    dsimp only at h
    split at h
    · cases h
    · cases h
    · split at h
      · cases h
      · split at h
        · cases h
        · cases h
          split <;> omega
theorem indexQuote_any (l : List UInt8) (w : World) : Calls Tryz.prog 36 #[str l, .int .u8 34] w fun e w' => e = .returned (.int .i64 (if runLen notQuote l < l.length then (runLen notQuote l : Int) else -1)) ∧ w = w' :=
  (Tryz.strings_IndexByte ⟨l.toArray⟩ 34 w).mono fun e w' ⟨h1, h2⟩ => ⟨by rw [h1]; exact congrArg (fun i => Ending.returned (.int .i64 i)) (index_quote l), h2.symm⟩
theorem indexIn_any (l : List UInt8) (c : UInt8) (w : World) : Calls Tryz.prog 36 #[str l, .int .u8 (c.toNat : Int)] w fun e w' => e = .returned (.int .i64 (Lib.indexByte l c)) ∧ w = w' :=
  (Tryz.strings_IndexByte ⟨l.toArray⟩ (c.toNat : Int) w).mono fun e w' ⟨h1, h2⟩ => ⟨by rw [h1]; simp, h2.symm⟩
theorem index_marks (c : UInt8) : (decide (0 ≤ Lib.indexByte [40, 41, 61] c) = decide (c.toNat = 40 ∨ c.toNat = 41 ∨ c.toNat = 61)) ∧ (decide (0 ≤ Lib.indexByte [33, 60, 62] c) = decide (c.toNat = 33 ∨ c.toNat = 60 ∨ c.toNat = 62)) := by
  have key : ∀ n, n < 256 → (decide (0 ≤ Lib.indexByte [40, 41, 61] (UInt8.ofNat n)) = decide (n = 40 ∨ n = 41 ∨ n = 61)) ∧ (decide (0 ≤ Lib.indexByte [33, 60, 62] (UInt8.ofNat n)) = decide (n = 33 ∨ n = 60 ∨ n = 62)) := by decide +kernel
  have := key c.toNat c.toNat_lt
  rwa [UInt8.ofNat_toNat] at this
end Go.Proofs.YtkblkdnihppmnaaGreatDoor
