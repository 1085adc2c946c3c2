/- Items (layer 20): where runs and programs lie; the library's cmp.Or at any length. -/
import Derived.Test.YtjmdbgbkmjlmdaaItems
import Derived.Test.YtjmdbgbkmjlmdaaMem9
import Derived.Test.YtjmdbgbkmjlmdaaDues0
import Derived.Test.YtjmdbgbkmjlmdaaFlatEq
namespace Go.Proofs.Ytjmdbgbkmjlmdaa
set_option linter.unusedSimpArgs false
set_option linter.unusedVariables false
open Go.RowKit Res

structure ProgsAt (w : World) (A : Option Addr) (ps : List ProgD) : Prop where
  row : Row w 0 w.heap.size 2 A ps.length (ps.flatMap ProgD.cells)
  opts : ∀ p ∈ ps, Row w 0 w.heap.size 11 p.oA p.opts.length (p.opts.flatMap fun o => o.cells.toList)
structure RunsAt (w : World) (A : Option Addr) (rs : List RunD) : Prop where
  row : Row w 0 w.heap.size 20 A rs.length (rs.flatMap RunD.cells)
  acts : ∀ r ∈ rs, Row w 0 w.heap.size 10 r.aA r.acts.length (r.acts.flatMap fun a => a.cells.toList)
theorem ProgsAt.ext {w w' : World} {A : Option Addr} {ps : List ProgD} (h : ProgsAt w A ps) (hx : Ext w w') : ProgsAt w' A ps :=
  ⟨(h.row.below hx (Nat.le_refl _)).wide (Nat.le_refl _) hx.size, fun p hp => ((h.opts p hp).below hx (Nat.le_refl _)).wide (Nat.le_refl _) hx.size⟩
theorem RunsAt.ext {w w' : World} {A : Option Addr} {rs : List RunD} (h : RunsAt w A rs) (hx : Ext w w') : RunsAt w' A rs :=
  ⟨(h.row.below hx (Nat.le_refl _)).wide (Nat.le_refl _) hx.size, fun p hp => ((h.acts p hp).below hx (Nat.le_refl _)).wide (Nat.le_refl _) hx.size⟩
/-- where the i-th run lies: its cells -/
theorem RunsAt.run {w : World} {A : Option Addr} {rs : List RunD} (h : RunsAt w A rs) {i : Nat} {r : RunD} (hr : rs[i]? = some r) :
    ∃ b off, A = some ⟨b, off, none⟩ ∧ b < w.heap.size ∧ ∀ j u, r.cells[j]? = some u → w.cell? ⟨b, off + i * 20 + j, none⟩ = some u := by
  obtain ⟨b, off, e, -, h2, h3⟩ := h.row.elem (fun _ => rfl) rfl hr
  exact ⟨b, off, e, h2, h3⟩
theorem RunsAt.act {w : World} {A : Option Addr} {rs : List RunD} (h : RunsAt w A rs) {i k : Nat} {r : RunD} {a : ActV} (hr : rs[i]? = some r) (ha : r.acts[k]? = some a) :
    ∃ b off, r.aA = some ⟨b, off, none⟩ ∧ b < w.heap.size ∧ ∀ j u, a.cells.toList[j]? = some u → w.cell? ⟨b, off + k * 10 + j, none⟩ = some u := by
  obtain ⟨b, off, e, -, h2, h3⟩ := (h.acts r (List.mem_of_getElem? hr)).elem (fun _ => rfl) rfl ha
  exact ⟨b, off, e, h2, h3⟩
theorem ProgsAt.prog {w : World} {A : Option Addr} {ps : List ProgD} (h : ProgsAt w A ps) {i : Nat} {p : ProgD} (hp : ps[i]? = some p) :
    ∃ b off, A = some ⟨b, off, none⟩ ∧ b < w.heap.size ∧ ∀ j u, p.cells[j]? = some u → w.cell? ⟨b, off + i * 2 + j, none⟩ = some u := by
  obtain ⟨b, off, e, -, h2, h3⟩ := h.row.elem (fun _ => rfl) rfl hp
  exact ⟨b, off, e, h2, h3⟩
theorem ProgsAt.opt {w : World} {A : Option Addr} {ps : List ProgD} (h : ProgsAt w A ps) {i k : Nat} {p : ProgD} {o : OptV} (hp : ps[i]? = some p) (ho : p.opts[k]? = some o) :
    ∃ b off, p.oA = some ⟨b, off, none⟩ ∧ b < w.heap.size ∧ ∀ j u, o.cells.toList[j]? = some u → w.cell? ⟨b, off + k * 11 + j, none⟩ = some u := by
  obtain ⟨b, off, e, -, h2, h3⟩ := (h.opts p (List.mem_of_getElem? hp)).elem (fun _ => rfl) rfl ho
  exact ⟨b, off, e, h2, h3⟩

theorem orAll_drop {cs : List Int} {k : Nat} {c : Int} (h : cs[k]? = some c) : orAll (cs.drop k) = if c ≠ 0 then c else orAll (cs.drop (k + 1)) := by
  have hk := (List.getElem?_eq_some_iff.1 h)
  rw [List.drop_eq_getElem_cons hk.1, hk.2]
  rfl
set_option maxRecDepth 100000 in
set_option maxHeartbeats 800000 in
theorem orN_any (cs : List Int) (b cap : Nat) (w : World) (hn : cs.length ≤ 1000) (h0 : ∀ k c, cs[k]? = some c → w.cell? ⟨b, k, none⟩ = some (iv c)) :
    Calls Try.prog 51 #[.slice (some ⟨b, 0, none⟩) cs.length cap] w fun e w' => e = .returned (iv (orAll cs)) ∧ w' = w := by
  have H0 := Lib.hid h0
  clear h0
  go_enter Try.func51, Try.ntmps51
  go_wp2_with fail
  go_loopw [8] (fun i wr => ∃ k : Nat, k ≤ cs.length ∧ i = .int .i64 k ∧ Hid (orAll (cs.drop k) = orAll cs) ∧ wr = w) (fun i _ => cs.length - (intOf i).toNat)
  · exact ⟨0, by omega, rfl, rfl, rfl⟩
  · obtain ⟨k, hk, rfl, hr, rfl⟩ := hrel
    by_cases hlt : k < cs.length
    · obtain ⟨c, hc⟩ : ∃ c, cs[k]? = some c := ⟨_, List.getElem?_eq_getElem hlt⟩
      have hcell := H0.out k c hc
      have hd := orAll_drop hc
      have hw : IntKind.i64.wrap ((k : Int) + 1) = (k : Int) + 1 := IntWalk.i64_in _ (by omega)
      by_cases h : c = 0
      · subst h
        have hr' : Hid (orAll (cs.drop (k + 1)) = orAll cs) := Lib.hid (by rw [← hr.out, hd]; simp)
        clear hd hc
        go_wp2
        exact ⟨⟨k + 1, by omega, by go_num, hr', by first | rfl | trivial⟩, by simp [intOf]; omega⟩
      · have h' : (c != (0 : Int)) = true := by simpa using h
        have hr' : Hid (orAll cs = c) := Lib.hid (by rw [← hr.out, hd, if_pos h])
        clear hd hc
        go_wp2
        go_ret
        exact ⟨by rw [hr'.out]; rfl, rfl⟩
    · obtain rfl : k = cs.length := by omega
      have hr' : Hid (orAll cs = 0) := Lib.hid (by rw [← hr.out, List.drop_length]; rfl)
      go_wp2
      go_ret
      exact ⟨by rw [hr'.out]; rfl, rfl⟩
end Go.Proofs.Ytjmdbgbkmjlmdaa
