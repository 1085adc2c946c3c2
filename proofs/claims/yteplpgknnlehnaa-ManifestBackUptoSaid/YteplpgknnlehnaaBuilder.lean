/- strings.Builder: the builder that a function itself has made. -/
import Derived.Test.YteplpgknnlehnaaCodec
import Derived.Test.YteplpgknnlehnaaShelf
import Derived.Lib.Builder
import Derived.Lib.AppendStr
namespace Go.Proofs.Yteplpgknnlehnaa
set_option linter.unusedSimpArgs false
set_option linter.unusedVariables false
open Go.RowKit

/-- block b is a builder of this call's own (from B on) that holds the bytes l -/
def Bld (w : World) (B b : Nat) (l : List UInt8) : Prop := Lib.IsBuilder 77 5 B b (Lib.byteCells l) w

theorem Bld.new (w : World) : Bld (w.alloc (.cells #[.pointer none, .slice none 0 0] 77)) w.heap.size w.heap.size [] := Lib.fresh_isBuilder _ _ w

/-- what is neither a builder nor bytes is as it was -/
def Oth (w w' : World) : Prop := ∀ g t cs, t ≠ 77 → t ≠ 5 → Box w g t cs → Box w' g t cs
theorem Oth.trans {a b c : World} (h : Oth a b) (k : Oth b c) : Oth a c := fun g t cs h1 h2 hb => k g t cs h1 h2 (h g t cs h1 h2 hb)
theorem Oth.refl (a : World) : Oth a a := fun _ _ _ _ _ h => h
theorem Oth.ext {a b : World} (h : Ext a b) : Oth a b := fun _ _ _ _ _ hb => hb.ext h
theorem Box.type_eq {w : World} {g t t' : TypeId} {cs cs' : Array Value} (h : Box w g t cs) (h' : Box w g t' cs') : t = t' := by
  unfold Box at h h'
  rw [h] at h'
  injection h' with h'
  injection h' with _ ht
theorem Oth.setCell {w : World} {b i : Nat} {cs : Array Value} {t : TypeId} (h : Box w b t cs) (ht : t = 77 ∨ t = 5) (u : Value) : Oth w (w.setCell ⟨b, i, none⟩ u) := fun g t' cs' h1 h2 hb => by
  refine hb.far (p := ⟨b, i, none⟩) ?_ u
  rintro rfl
  have := hb.type_eq h
  rcases ht with ht | ht
  · exact h1 (this.trans ht)
  · exact h2 (this.trans ht)

theorem builder_size : (Try.prog.info? 77).map (·.size) = some 2 := by kernel_rfl
theorem builder_lies : liesAt Try.prog Try.prog.depth 77 (2 / Try.prog.cellsOf 77) 0 77 1 = true := by kernel_rfl

set_option maxRecDepth 100000 in
set_option maxHeartbeats 800000 in
theorem copyCheck_used (b : Nat) (w : World) (h0 : w.cell? ⟨b, 0, none⟩ = some (.pointer (some ⟨b, 0, none⟩))) :
    Calls Try.prog 81 #[.pointer (some ⟨b, 0, none⟩)] w fun e w' => e = .returned (.tuple #[]) ∧ w' = w := by
  obtain ⟨j, hj, _⟩ := Option.map_eq_some_iff.1 builder_size
  have hne := Lib.run_neq_ptr_same (P := Try.prog) w ⟨b, 0, none⟩ Try.underlying74 hj
  go_enter Try.func81, Try.ntmps81
  go_wp2
  go_end0
  exact ⟨rfl, rfl⟩
set_option maxRecDepth 100000 in
set_option maxHeartbeats 800000 in
theorem copyCheck_fresh (b : Nat) (w : World) (h0 : w.cell? ⟨b, 0, none⟩ = some (.pointer none)) (hsh : w.shape? b = some (77, 2)) (hfz : w.frozen? ⟨b, 0, none⟩ = false) :
    Calls Try.prog 81 #[.pointer (some ⟨b, 0, none⟩)] w fun e w' => e = .returned (.tuple #[]) ∧ w' = w.setCell ⟨b, 0, none⟩ (.pointer (some ⟨b, 0, none⟩)) := by
  obtain ⟨j, hj, hjs⟩ := Option.map_eq_some_iff.1 builder_size
  have hne := Lib.run_neq_ptr_same (P := Try.prog) (w.setCell ⟨b, 0, none⟩ (.pointer (some ⟨b, 0, none⟩))) ⟨b, 0, none⟩ Try.underlying74 hj
  have h1 := Lib.run_to_unsafe (P := Try.prog) (dst := 131) w ⟨b, 0, none⟩ Try.underlying74 Try.underlying131 hj (by rw [hjs]; decide) hsh (Nat.zero_lt_succ 1)
  have h2 := Lib.run_from_unsafe (P := Try.prog) (src := 131) w ⟨b, 0, none⟩ Try.underlying131 Try.underlying74 hj hsh builder_lies
  go_enter Try.func81, Try.ntmps81
  go_wp2
  rw [run_callFunc_extern Try.func93 (by kernel_rfl) (by kernel_rfl) (by kernel_rfl) (e := Extern.AbiNoEscape.same) (by kernel_rfl)]
  rw [Lib.run_noEscape]
  simp only [Result.andThen]
  rw [Oper.upon_value]
  go_wp2
  go_end0
  exact ⟨rfl, rfl⟩
theorem copyCheck_any (B b : Nat) (l : List UInt8) (w : World) (h : Bld w B b l) :
    Calls Try.prog 81 #[.pointer (some ⟨b, 0, none⟩)] w fun e w' => e = .returned (.tuple #[]) ∧ (Lib.BuilderAt 77 5 B b (.pointer (some ⟨b, 0, none⟩)) (Lib.byteCells l) w' ∧ Below B w w' ∧ Oth w w') := by
  rcases h with h | h
  · refine (copyCheck_fresh b w h.cell0 h.shape h.frozen0).mono ?_
    rintro e w' ⟨rfl, rfl⟩
    have h' := h
    obtain ⟨_, v, hbk, _⟩ := h'
    exact ⟨rfl, h.used _, (Below.refl B w).setCell (p := ⟨b, 0, none⟩) h.1 _, Oth.setCell hbk (.inl rfl) _⟩
  · refine (copyCheck_used b w h.cell0).mono ?_
    rintro e w' ⟨rfl, rfl⟩
    exact ⟨rfl, h, Below.refl B _, Oth.refl _⟩

theorem byteInfo : (Try.prog.info? 5).map (fun i => (i.zero, i.size, i.bytes)) = some (some (.int .u8 0), 1, 1) := by kernel_rfl

set_option maxRecDepth 100000 in
set_option maxHeartbeats 800000 in
theorem writeString_any (B b : Nat) (l s : List UInt8) (w : World) (h : Bld w B b l) (hlen : l.length + s.length ≤ 140737488355328) (hBw : B ≤ w.heap.size) :
    Calls Try.prog 46 #[.pointer (some ⟨b, 0, none⟩), str s] w fun e w' => e = .returned (.tuple #[.int .i64 s.length, .nilIface]) ∧ Bld w' B b (l ++ s) ∧ Below B w w' ∧ Oth w w' := by
  obtain ⟨i0, hi, hz0, hz1, hz2⟩ := info_parts byteInfo
  go_enter Try.func46, Try.ntmps46
  go_wp2_with fail
  refine (copyCheck_any B b l _ h).mono ?_
  rintro e w1 ⟨rfl, h1, hb1, ho1⟩
  obtain ⟨hB, v, hbk, hown, hne⟩ := h1
  have c0 : w1.cell? ⟨b, 0, none⟩ = some (.pointer (some ⟨b, 0, none⟩)) := by rw [Lib.cell_of_heap hbk]; rfl
  have c1 : w1.cell? ⟨b, 1, none⟩ = some v := by rw [Lib.cell_of_heap hbk]; rfl
  have hll : (Lib.byteCells l).length = l.length := by simp [Lib.byteCells]
  have hss : (⟨s.toArray⟩ : ByteArray).size = s.length := by show s.toArray.size = _; simp
  go_wp2_with (at_builtin; refine Lib.wpList_append_own_string _ rfl _ _ 75 9 rfl B 5 i0 Try.underlying75 Try.underlying9 hi hz0 hz1 hz2 _ _ _ rfl hown ⟨s.toArray⟩ rfl ?c3 ?c4 ?c5 ?_)
  case c3 => unfold maxLen; omega
  case c4 => omega
  case c5 => have := hb1.size; omega
  intro v' w2 hown' hgrow _
  have hlt : b < w1.heap.size := (Array.getElem?_eq_some_iff.1 hbk).1
  have hb2 : w2.heap[b]? = some (.cells #[.pointer (some ⟨b, 0, none⟩), v] 77 (0, 0)) := by
    rw [hgrow.block b hlt (fun e => hne e.symm)]
    exact hbk
  have d0 : w2.cell? ⟨b, 0, none⟩ = some (.pointer (some ⟨b, 0, none⟩)) := by rw [Lib.cell_of_heap hb2]; rfl
  have d1 : w2.cell? ⟨b, 1, none⟩ = some v := by rw [Lib.cell_of_heap hb2]; rfl
  have f1 : w2.frozen? ⟨b, 1, none⟩ = false := Lib.frozen_of_heap hb2 1
  obtain ⟨ao, n', cap, rfl⟩ : ∃ ao n' cap, v' = .slice ao n' cap := by
    obtain ⟨A, c, h⟩ := own_form hown'
    exact ⟨_, _, _, h⟩
  go_wp2
  go_ret2
  refine ⟨rfl, .inr ?_, ?_, ?_⟩
  · have e : Lib.byteCells (l ++ s) = Lib.byteCells l ++ Lib.strCells ⟨s.toArray⟩ := by simp [Lib.byteCells, Lib.strCells]
    rw [e]
    exact Lib.BuilderAt.put hB hb2 (bs' := Lib.byteCells l ++ Lib.strCells ⟨s.toArray⟩) (by rw [List.length_append, Lib.strCells_length, hll, hss]; exact hown') (by decide)
  · exact (hb1.grown hgrow (by have := hb1.size; omega) (fun k hk => (hown.lt k hk).1)).setCell (p := ⟨b, 1, none⟩) hB _
  · refine ho1.trans (Oth.trans ?_ (Oth.setCell hb2 (.inl rfl) _))
    intro g t cs h1 h2 hb
    exact hb.grown hgrow (fun e => Lib.ownBlock_ne hown hb h2 e.symm)

theorem builderString_any (B b : Nat) (l : List UInt8) (w : World) (h : Bld w B b l) (hBw : B ≤ w.heap.size) :
    Calls Try.prog 49 #[.pointer (some ⟨b, 0, none⟩)] w fun e w' => e = .returned (str l) ∧ Below B w w' := Try.Builder_String_any B b l w h hBw

namespace Bld
variable {w w' : World} {B b : Nat} {l : List UInt8}
theorem lt (h : Bld w B b l) : b < w.heap.size := by rcases h with h | h <;> exact h.lt
theorem at_ {T e : TypeId} {p : Value} {bs : List Value} (h : Lib.BuilderAt T e B b p bs w) (hk : ∀ g, B ≤ g → g < w.heap.size → w'.heap[g]? = w.heap[g]?) : Lib.BuilderAt T e B b p bs w' := by
  obtain ⟨hB, v, hbk, hown, hne⟩ := h
  refine ⟨hB, v, (hk b hB (Array.getElem?_eq_some_iff.1 hbk).1).trans hbk, ?_, hne⟩
  obtain ⟨h1, h2⟩ := hown
  refine ⟨h1, ?_⟩
  rcases h2 with h2 | ⟨g, cap, cur, hv, hg, hh, r⟩
  · exact .inl h2
  · exact .inr ⟨g, cap, cur, hv, hg, (hk g hg (Array.getElem?_eq_some_iff.1 hh).1).trans hh, r⟩
theorem keep (h : Bld w B b l) (hk : ∀ g, B ≤ g → g < w.heap.size → w'.heap[g]? = w.heap[g]?) : Bld w' B b l := by
  rcases h with h | h
  · exact .inl (at_ h hk)
  · exact .inr (at_ h hk)
theorem ext (h : Bld w B b l) (hb : Ext w w') : Bld w' B b l := h.keep fun g _ h2 => hb.block g h2
theorem alloc (h : Bld w B b l) (o : Obj) : Bld (w.alloc o) B b l := h.ext (Ext.al w o)
theorem drew (h : Bld w B b l) : Bld w.drew B b l := h.ext (Ext.dr w)
end Bld
end Go.Proofs.Yteplpgknnlehnaa
