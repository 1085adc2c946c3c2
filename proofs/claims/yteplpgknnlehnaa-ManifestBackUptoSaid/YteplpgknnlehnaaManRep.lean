/- Manifests read whole (layer 10), as plain functions: the program's way and the document's way agree; what the tables that live are bounded by. -/
import Derived.Test.YteplpgknnlehnaaFrAt
import Derived.Test.YteplpgknnlehnaaApplies0
namespace Go.Proofs.Yteplpgknnlehnaa
set_option linter.unusedSimpArgs false
set_option linter.unusedVariables false
open Go.RowKit

theorem may_ok {e : Edit} (h : e.may = true) : e.Ok := by
  simp [Edit.may] at h
  obtain ⟨⟨⟨⟨⟨h1, h2⟩, h3⟩, h4⟩, h5⟩, h6, h7⟩ := h
  refine ⟨by unfold M64; omega, by unfold M64; omega, by unfold M64; omega, fun t ht => ?_, fun n hn => ?_, by omega, by omega⟩
  · have := h6 t ht
    simp [Table.may, mayKey] at this
    refine ⟨by unfold M64; omega, ?_, ?_, ?_, by omega, by omega⟩ <;> (unfold I64; omega)
  · have := h7 n hn
    simp [mayDrop] at this
    unfold M64
    omega
theorem decodeEdit_may {l : List UInt8} (h : (decodeEdit l).2 = 0) : (decodeEdit l).1.may = true := by
  unfold decodeEdit editEnd at h ⊢
  split at h
  · cases h
  · rename_i hc
    rw [if_neg hc]
    simp at hc
    exact hc.1.2
theorem decodeEdit_ok (l : List UInt8) : (decodeEdit l).1.Ok := by
  by_cases h : (decodeEdit l).2 = 0
  · exact may_ok (decodeEdit_may h)
  · have : (decodeEdit l).1 = noEdit := by
      unfold decodeEdit editEnd at h ⊢
      split
      · rfl
      · rename_i hc
        rw [if_neg hc] at h
        exact absurd rfl h
    rw [this]
    exact may_ok (by rfl)

def okM (v : Live) (x : Nat × Frm) : Bool := decide (x.2.kind = 7) && decide ((decodeEdit x.2.load).2 = 0) && decide ((applyWith putRef v (decodeEdit x.2.load).1).2 = 0)
def nextM (v : Live) (x : Nat × Frm) : Live := (applyWith putRef v (decodeEdit x.2.load).1).1
/-- the program's replay -/
def runM (s : List UInt8) : Live × Nat × Nat → List (Nat × Frm) → Live × Nat × Nat × Int
  | st, [] => (st.1, st.2.1, st.2.2, 0)
  | st, x :: xs => if okM st.1 x = true then runM s (nextM st.1 x, st.2.1 + 1, x.1 + (takeFrame (s.drop x.1)).2.1) xs else (st.1, st.2.1, x.1, 9)
/-- the document's replay -/
def runMR (fin : Nat) : Live × Nat → List (Nat × Frm) → Live × Nat × Nat × Int
  | st, [] => (st.1, st.2, fin, 0)
  | st, x :: xs => if okM st.1 x = true then runMR fin (nextM st.1 x, st.2 + 1) xs else (st.1, st.2, x.1, 9)
theorem runM_eq {s : List UInt8} {p fin : Nat} {l : List (Nat × Frm)} (h : FrAt s p l fin) : ∀ (v : Live) (c : Nat), runM s (v, c, p) l = runMR fin (v, c) l := by
  induction h with
  | stop p h => intro v c; rfl
  | step p f n rest fin h hr ih =>
    intro v c
    unfold runM runMR
    split
    · rw [← ih]
      dsimp only
      rw [h]
    · rfl

/-- what holds of the tables that live behind k edits -/
structure GoodM (k : Nat) (v : Live) : Prop where
  srt : v.Srt
  len : ∀ j, j < 4 → (v.tab j).length ≤ 1000 * k
  num : ∀ x ∈ numsOf v, x < M64
theorem GoodM.zero : GoodM 0 noLive := ⟨noLive_srt, fun j _ => by simp [noLive], fun x hx => by simp [numsOf, numsTo, noLive] at hx⟩
theorem GoodM.next {k : Nat} {v : Live} {x : Nat × Frm} (h : GoodM k v) (hx : okM v x = true) : GoodM (k + 1) (nextM v x) := by
  simp only [okM, Bool.and_eq_true, decide_eq_true_eq] at hx
  obtain ⟨g1, g2⟩ := apply_grow hx.2 (decodeEdit_ok _) h.num
  exact ⟨(apply_same h.srt _).2, fun j hj => by have := g1 j; have := h.len j hj; unfold nextM; omega, g2⟩
end Go.Proofs.Yteplpgknnlehnaa
