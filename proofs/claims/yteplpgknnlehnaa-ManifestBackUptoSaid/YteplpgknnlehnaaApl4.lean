/- A table more in a level, in its order (layer 10): the document's walk where nothing is there yet; whatever is there. -/
import Derived.Test.YteplpgknnlehnaaApl3
namespace Go.Proofs.Yteplpgknnlehnaa
set_option linter.unusedSimpArgs false
set_option linter.unusedVariables false
open Go.RowKit

set_option maxRecDepth 100000 in
set_option maxHeartbeats 800000 in
theorem put_none (t : Table) (w : World) :
    Calls Try.prog 66 #[.slice none 0 0, .agg t.cells.toArray] w fun e w' => ∃ A' c', e = .returned (.slice A' 1 c') ∧ Own w' w.heap.size 53 Table.cells 6 A' c' [t] ∧ Ext w w' := by
  obtain ⟨n1, l1, s1, c1, a1, g1⟩ := t
  dsimp only [Table.cells] at *
  go_enter Try.func66, Try.ntmps66
  go_wp2_with fail
  obtain ⟨S, hS⟩ : ∃ S, w.heap.size = S := ⟨_, rfl⟩
  (obtain ⟨w0, hw0⟩ : ∃ w0, w0 = World.alloc w (.cells #[.int .u64 n1, .int .i64 l1, .int .i64 s1, .int .i64 c1, str a1, str g1] 53) := ⟨_, rfl⟩); (have hbox_w0 : Box w0 (w).heap.size 53 #[.int .u64 n1, .int .i64 l1, .int .i64 s1, .int .i64 c1, str a1, str g1] := by rw [hw0]; exact Box.new _ _ _); (have hE_w0 : Ext w w0 := by rw [hw0]; exact Ext.al _ _); (have hz_w0 : (w0).heap.size = (w).heap.size + 1 := by rw [hw0]; simp); rw [← hw0]; clear hw0
  rw [hS] at hbox_w0 hz_w0 ⊢
  go_loopw [5] (fun i wr => i = .int .i64 0 ∧ wr = w0) (fun i _ => 0)
  · exact ⟨rfl, rfl⟩
  · obtain ⟨rfl, rfl⟩ := hrel
    have d0 := hbox_w0.cell 0
    have d1 := hbox_w0.cell 1
    have d2 := hbox_w0.cell 2
    have d3 := hbox_w0.cell 3
    have d4 := hbox_w0.cell 4
    have d5 := hbox_w0.cell 5
    simp only [List.getElem?_toArray, List.getElem?_cons_zero, List.getElem?_cons_succ] at d0 d1 d2 d3 d4 d5
    go_wp2_with fail
    go_quiet (fail)
    have HBn : ∀ n, Box (wr.drewN n) S 53 #[.int .u64 n1, .int .i64 l1, .int .i64 s1, .int .i64 c1, str a1, str g1] := fun n => hbox_w0
    go_wp2_with (at_builtin; refine wpList_push_at Try.tablesOf rfl _ _ rfl (base := S) (⟨n1, l1, s1, c1, a1, g1⟩ : Table) rfl Own.nil_ rfl (by show Value.slice (some ⟨S + 1, 0, none⟩) 1 1 = _; rw [← hz_w0]; rfl) rfl (Table.cells_len _) (Table.one _) (by first | decide | simp) (by first | decide | simp) (by show S ≤ wr.heap.size; omega) ?_)
    rintro A2 c2' w2 ho2 hg2 -
    have hX2 : Ext w w2 := Below.grown (a := w) (w := (wr.drewN _).alloc _) (Ext.trans' (Below.trans hE_w0 (below_drewN' wr _)) (Ext.al _ _)) hg2 (by have := hE_w0.size; simp; omega) (fun g e => by cases e)
    have HX2 := Lib.hid hX2
    clear hg2 hX2 d0 d1 d2 d3 d4 d5 hbox_w0 hE_w0 hz_w0 HBn
    obtain ⟨i0, z0, hi0, _⟩ := (Try.tablesOf).info
    go_wp2_with (at_builtin; refine wpList_append_own_none rfl _ _ _ rfl S 53 i0 6 Try.underlying32 hi0 _ _ _ rfl ho2 rfl ?_)
    have ho3 := Lib.hid ho2
    clear ho2
    go_wp2
    go_ret
    exact ⟨_, _, rfl, by rw [hS]; exact ho3.out, HX2.out⟩
theorem put_any (l : List Table) (hl : l.length ≤ 1099511627776) (t : Table) (ht : 0 ≤ t.level) (A : Option Addr) (c base : Nat) (w : World) (hown : Own w base 53 Table.cells 6 A c l) :
    Calls Try.prog 66 #[.slice A l.length c, .agg t.cells.toArray] w fun e w' => ∃ A' c', e = .returned (.slice A' (l.length + 1) c') ∧ Own w' w.heap.size 53 Table.cells 6 A' c' (putRef l t) ∧ Ext w w' := by
  rcases Lies.of_own hown with ⟨rfl, rfl, rfl⟩ | ⟨b, off, rfl, hb, hc, hr⟩
  · exact put_none t w
  · refine (put_some l hl t ht b off c hc w hb hr).mono ?_
    rintro _ w' ⟨A', c', rfl, h⟩
    have hlen : (putRef l t).length = l.length + 1 := by
      have := congrArg List.length (List.takeWhile_append_dropWhile (p := ahead t) (l := l))
      simp only [List.length_append] at this
      simp [putRef]
      omega
    exact ⟨A', c', by rw [hlen], h⟩
end Go.Proofs.Yteplpgknnlehnaa
