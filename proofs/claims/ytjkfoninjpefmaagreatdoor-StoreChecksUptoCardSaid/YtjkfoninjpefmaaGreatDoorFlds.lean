/- The fields of a struct that came in as an argument. -/
import Derived.Test.YtjkfoninjpefmaaGreatDoorFlat2
import Derived.Test.YtjkfoninjpefmaaGreatDoorRows
import Derived.OpenShut
namespace Go.Proofs.YtjkfoninjpefmaaGreatDoor
set_option linter.unusedSimpArgs false
set_option linter.unusedVariables false
open Go.RowKit Go.Deep

section
variable {H : Type} {enc : TypeId × Value → H} {P : Program} {w : World} {base : Nat} {spare : Nat → Bool} {held : Bool} {t : TypeId} {fuel : Nat} {cs : List Value} {x : DataW H × List MemPlace}
/-- a field of a struct that came in -/
theorem fld {fs : Array Field} (ht : P.underlying t = some (.struct fs)) (h : DataW.trod enc P w base spare held fuel t cs = some x) (i off k : Nat) (hi : decide (i < fs.size) = true) (ho : (fs.getD i default).offset = off) (hk : P.cellsOf (fs.getD i default).type = k) :
    ∃ y n, DataW.trod enc P w base spare held n (fs.getD i default).type ((cs.drop off).take k) = some y ∧ Rows.uptoBulk y.1 ≤ Rows.uptoBulk x.1 := by
  obtain ⟨xs, n, _, rfl, hl, hlen, hf⟩ := DataW.trod_struct ht h
  have hi' : i < fs.size := by simpa using hi
  have he : fs.getD i default = fs[i] := by simp [Array.getD, hi']
  have h1 := hf i fs[i] (Array.getElem?_eq_getElem hi')
  rw [he] at ho hk ⊢
  subst ho hk
  have hx : i < xs.length := by omega
  refine ⟨xs[i], n, by rw [h1, List.getElem?_eq_getElem hx], ?_⟩
  have := bulk_part (d := xs[i].1) (l := xs.map (·.1)) (List.mem_map.2 ⟨xs[i], List.getElem_mem hx, rfl⟩)
  simp only [Rows.uptoBulk]
  omega
theorem fld_len {fs : Array Field} (ht : P.underlying t = some (.struct fs)) (h : DataW.trod enc P w base spare held fuel t cs = some x) : cs.length = P.cellsOf t := by
  obtain ⟨xs, n, _, rfl, hl, hlen, hf⟩ := DataW.trod_struct ht h
  exact hl
theorem fld_one_of {a v : Value} {l : List Value} {off : Nat} (h : (l.drop off).take 1 = [v]) (ha : l[off]? = some a) : a = v := by
  have h1 : l[off]? = some v := by
    have := congrArg (fun x => x[0]?) h
    simpa using this
  rw [ha] at h1
  exact Option.some.inj h1
theorem fld_int {fs : Array Field} (ht : P.underlying t = some (.struct fs)) (h : DataW.trod enc P w base spare held fuel t cs = some x) (i off : Nat) (hi : decide (i < fs.size) = true) (ho : (fs.getD i default).offset = off) (hk : P.cellsOf (fs.getD i default).type = 1) (hu : P.underlying (fs.getD i default).type = some (.int .i64)) {a : Value} (ha : cs[off]? = some a) : ∃ n : Int, a = .int .i64 n := by
  obtain ⟨y, n, h1, -⟩ := fld ht h i off 1 hi ho hk
  obtain ⟨v, h2, -⟩ := read_i64 hu h1
  exact ⟨v, fld_one_of h2 ha⟩
theorem fld_str {fs : Array Field} (ht : P.underlying t = some (.struct fs)) (h : DataW.trod enc P w base spare held fuel t cs = some x) (i off : Nat) (hi : decide (i < fs.size) = true) (ho : (fs.getD i default).offset = off) (hk : P.cellsOf (fs.getD i default).type = 1) (hu : P.underlying (fs.getD i default).type = some .string) {a : Value} (ha : cs[off]? = some a) : ∃ l : List UInt8, a = str l := by
  obtain ⟨y, n, h1, -⟩ := fld ht h i off 1 hi ho hk
  obtain ⟨v, h2, -⟩ := read_str hu h1
  exact ⟨v, fld_one_of h2 ha⟩
/-- a slice of which only this is asked, that it is one -/
theorem fld_slice {fs : Array Field} {e : TypeId} (ht : P.underlying t = some (.struct fs)) (h : DataW.trod enc P w base spare held fuel t cs = some x) (i off : Nat) (hi : decide (i < fs.size) = true) (ho : (fs.getD i default).offset = off) (hk : P.cellsOf (fs.getD i default).type = 1) (hu : P.underlying (fs.getD i default).type = some (.slice e)) {a : Value} (ha : cs[off]? = some a) : ∃ (A : Option Addr) (n c : Nat), a = .slice A n c := by
  obtain ⟨y, n, h1, -⟩ := fld ht h i off 1 hi ho hk
  rcases Deep.open_slice hu h1 with ⟨h2, -⟩ | ⟨ad, len, cap, mm, k, D, Pl, h2, -⟩
  · exact ⟨none, 0, 0, fld_one_of h2 ha⟩
  · exact ⟨some ad, len, cap, fld_one_of h2 ha⟩
theorem fld_rows {fs : Array Field} {e : TypeId} {sz : Nat} {α : Type} (R : α → List Value → Prop) (m : α → Nat) (ht : P.underlying t = some (.struct fs)) (h : DataW.trod enc P w base spare held fuel t cs = some x) (i off : Nat) (hi : decide (i < fs.size) = true) (ho : (fs.getD i default).offset = off) (hk : P.cellsOf (fs.getD i default).type = 1) (hu : P.underlying (fs.getD i default).type = some (.slice e)) (hsz : P.cellsOf e = sz) (hpos : 0 < sz)
    (helem : ∀ fuel cs x, DataW.trod enc P w base spare held fuel e cs = some x → ∃ y : α, R y cs ∧ m y ≤ Rows.uptoBulk x.1) {a : Value} (ha : cs[off]? = some a) :
    ∃ (A : Option Addr) (c : Nat) (l : List α), a = .slice A l.length c ∧ RowR R w base w.heap.size sz A l ∧ l.length ≤ Rows.uptoBulk x.1 ∧ ∀ y ∈ l, m y ≤ Rows.uptoBulk x.1 := by
  obtain ⟨y, n, h1, hb⟩ := fld ht h i off 1 hi ho hk
  obtain ⟨A, c, l, h2, h3, -, -, h4, h5⟩ := read_slice R m hu hsz hpos helem h1
  exact ⟨A, c, l, fld_one_of h2 ha, h3, by omega, fun y hy => Nat.le_trans (h5 y hy) hb⟩
theorem fld_ints {fs : Array Field} {n : Nat} {e : TypeId} (ht : P.underlying t = some (.struct fs)) (h : DataW.trod enc P w base spare held fuel t cs = some x) (i off : Nat) (hi : decide (i < fs.size) = true) (ho : (fs.getD i default).offset = off) (hk : P.cellsOf (fs.getD i default).type = n) (hu : P.underlying (fs.getD i default).type = some (.array n e)) (he : P.underlying e = some (.int .i64)) (hc : P.cellsOf e = 1) (j : Nat) (hj : j < n) {a : Value} (ha : cs[off + j]? = some a) : ∃ v : Int, a = .int .i64 v := by
  obtain ⟨y, k, h1, -⟩ := fld ht h i off n hi ho hk
  obtain ⟨xs, m, -, -, -, hlen, hf⟩ := DataW.trod_array hu h1
  have h2 := hf j hj
  rw [hc, Nat.mul_one, List.getElem?_eq_getElem (by omega)] at h2
  obtain ⟨v, h3, -⟩ := read_i64 he h2
  refine ⟨v, fld_one_of (off := j) h3 ?_⟩
  rw [List.getElem?_take_of_lt hj, List.getElem?_drop]
  exact ha
end
end Go.Proofs.YtjkfoninjpefmaaGreatDoor
