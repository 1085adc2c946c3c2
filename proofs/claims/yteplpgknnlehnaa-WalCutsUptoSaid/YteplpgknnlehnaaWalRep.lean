/- Logs read whole (layer 5), as plain functions: the program's way and the document's way agree; how batches lie in memory. -/
import Derived.Test.YteplpgknnlehnaaWalDec2
import Derived.Test.YteplpgknnlehnaaFrTake
namespace Go.Proofs.Yteplpgknnlehnaa
set_option linter.unusedSimpArgs false
set_option linter.unusedVariables false
open Go.RowKit

theorem takeFrame_facts (s : List UInt8) : (takeFrame s).1.load.length ≤ 262144 ∧ (takeFrame s).2.1 ≤ s.length ∧ (takeFrame s).2.2 ≤ 3 ∧ ((takeFrame s).2.2 = 0 → 5 ≤ (takeFrame s).2.1) := by
  obtain ⟨h1, h2, h3⟩ := takeText_lens 262144 (s.drop 5)
  rw [List.length_drop] at h2
  unfold takeFrame
  split
  · simp
  · split
    · simp
    · split
      · simp; omega
      · split
        · simp
        · simp; omega

/-- from place `at` on stand just these frames, up to `fin` -/
inductive FrAt (s : List UInt8) : Nat → List (Nat × Frm) → Nat → Prop
  | stop (p : Nat) (h : (takeFrame (s.drop p)).2.2 ≠ 0) : FrAt s p [] p
  | step (p : Nat) (f : Frm) (n : Nat) (rest : List (Nat × Frm)) (fin : Nat) (h : takeFrame (s.drop p) = (f, n, 0)) (hr : FrAt s (p + n) rest fin) : FrAt s p ((p, f) :: rest) fin
theorem FrAt.exists_ (s : List UInt8) : ∀ (k p : Nat), s.length - p < k → p ≤ s.length → ∃ rest fin, FrAt s p rest fin
  | 0, _, h, _ => by omega
  | k + 1, p, h, hp => by
    by_cases he : (takeFrame (s.drop p)).2.2 = 0
    · obtain ⟨-, f2, -, f4⟩ := takeFrame_facts (s.drop p)
      rw [List.length_drop] at f2
      have := f4 he
      obtain ⟨rest, fin, hr⟩ := FrAt.exists_ s k (p + (takeFrame (s.drop p)).2.1) (by omega) (by omega)
      exact ⟨_, _, .step p _ _ rest fin (by rw [← he]) hr⟩
    · exact ⟨[], p, .stop p he⟩
theorem FrAt.le {s : List UInt8} {p fin : Nat} {l : List (Nat × Frm)} (h : FrAt s p l fin) (hp : p ≤ s.length) : fin ≤ s.length ∧ l.length * 5 + p ≤ fin ∧ ∀ x ∈ l, x.1 ≤ s.length ∧ x.2.load.length ≤ 262144 := by
  induction h with
  | stop p h => exact ⟨hp, by simp, by simp⟩
  | step p f n rest fin h hr ih =>
    obtain ⟨f1, f2, -, f4⟩ := takeFrame_facts (s.drop p)
    rw [h] at f1 f2 f4
    rw [List.length_drop] at f2
    have f4' : 5 ≤ n := f4 rfl
    dsimp only at f1 f2
    obtain ⟨i1, i2, i3⟩ := ih (by omega)
    refine ⟨i1, by simp; omega, fun x hx => ?_⟩
    rcases List.mem_cons.1 hx with rfl | hx
    · exact ⟨hp, f1⟩
    · exact i3 x hx

abbrev WSt := List Batch × Nat × Nat
def okW (seq : Nat) (x : Nat × Frm) : Bool := decide (x.2.kind = 2) && decide ((decodeBatch x.2.load).2 = 0) && decide (seq < (decodeBatch x.2.load).1.seq)
def stepW (s : List UInt8) (st : WSt) (x : Nat × Frm) : WSt := (st.1 ++ [(decodeBatch x.2.load).1], lastOf (decodeBatch x.2.load).1, x.1 + (takeFrame (s.drop x.1)).2.1)
/-- the program's replay -/
def runW (s : List UInt8) : WSt → List (Nat × Frm) → List Batch × Nat
  | st, [] => (st.1, st.2.2)
  | st, x :: xs => if okW st.2.1 x = true then runW s (stepW s st x) xs else (st.1, st.2.2)
/-- the document's replay -/
def runR (fin : Nat) : List Batch × Nat → List (Nat × Frm) → List Batch × Nat
  | st, [] => (st.1, fin)
  | st, x :: xs => if okW st.2 x = true then runR fin (st.1 ++ [(decodeBatch x.2.load).1], lastOf (decodeBatch x.2.load).1) xs else (st.1, x.1)
theorem runW_eq {s : List UInt8} {p fin : Nat} {l : List (Nat × Frm)} (h : FrAt s p l fin) : ∀ (bs : List Batch) (seq : Nat), runW s (bs, seq, p) l = runR fin (bs, seq) l := by
  induction h with
  | stop p h => intro bs seq; rfl
  | step p f n rest fin h hr ih =>
    intro bs seq
    unfold runW runR
    split
    · have := ih (bs ++ [(decodeBatch f.load).1]) (lastOf (decodeBatch f.load).1)
      rw [← this]
      unfold stepW
      dsimp only
      rw [h]
    · rfl

theorem decodeBatch_ok {l : List UInt8} (h : (decodeBatch l).2 = 0) : (decodeBatch l).1.Right := by
  unfold decodeBatch batchEnd at h ⊢
  split at h
  · cases h
  · rename_i hc
    rw [if_neg hc]
    simp at hc
    exact hc.2
theorem decodeBatch_err (l : List UInt8) : (decodeBatch l).2 = 0 ∨ (decodeBatch l).2 = 3 := by
  unfold decodeBatch batchEnd
  split
  · exact .inr rfl
  · exact .inl rfl
theorem decodeBatch_seq (l : List UInt8) : (decodeBatch l).1.seq ≤ 1125899906842624 ∧ (decodeBatch l).1.puts.length ≤ 256 := by
  unfold decodeBatch batchEnd
  split
  · simp [noBatch]
  · rename_i hc
    simp at hc
    exact ⟨hc.2.seq, (wcheck_parts hc.2.1).1⟩

/-- a batch that lies in memory: its puts in blocks from lo on, below hi -/
structure LB where
  b : Batch
  A : Option Addr
  c : Nat
  lo : Nat
  hi : Nat
def LB.cells (q : LB) : List Value := [.int .u64 q.b.seq, .slice q.A q.b.puts.length q.c]
theorem LB.cells_len (q : LB) : q.cells.length = 2 := rfl
theorem LB.one (q : LB) : ∀ u ∈ q.cells, u.oneCell' = true := by simp [LB.cells, Value.oneCell']
def LB.At (w : World) (B : Nat) (q : LB) : Prop := Row w q.lo q.hi 3 q.A q.b.puts.length (q.b.puts.flatMap Put.cells) ∧ B ≤ q.lo ∧ q.hi ≤ w.heap.size
theorem Try.batchesOf : ElemOf Try.prog 55 25 2 32 := elemOf_mk Try.underlying55 (z := .agg #[.int .u64 0, .slice none 0 0]) (by kernel_rfl) rfl (by decide)
/-- batches that lie in a slice of the call's own, and their puts -/
def Bats (w : World) (B : Nat) (A : Option Addr) (c : Nat) (L : List LB) : Prop :=
  Own w B 25 LB.cells 2 A c L ∧ ∀ q ∈ L, q.At w B ∧ ∀ g, ownBlk A = some g → g < q.lo ∨ q.hi ≤ g
theorem Bats.nil_ (w : World) (B : Nat) : Bats w B none 0 [] := ⟨Own.nil_, by simp⟩
theorem LB.At.fr {S : Nat → Prop} {w w' : World} {B : Nat} {q : LB} (h : q.At w B) (hf : Fr S w w') (hs : ∀ b, B ≤ b → b < w.heap.size → S b) : q.At w' B :=
  ⟨h.1.fr hf h.2.2 (fun b h1 h2 => hs b (Nat.le_trans h.2.1 h1) (Nat.lt_of_lt_of_le h2 h.2.2)), h.2.1, Nat.le_trans h.2.2 hf.size⟩
theorem Bats.fr {S : Nat → Prop} {w w' : World} {B : Nat} {A : Option Addr} {c : Nat} {L : List LB} (h : Bats w B A c L) (hf : Fr S w w') (hs : ∀ b, B ≤ b → b < w.heap.size → S b) : Bats w' B A c L :=
  ⟨h.1.fr hf hs, fun q hq => ⟨(h.2 q hq).1.fr hf hs, (h.2 q hq).2⟩⟩
theorem Bats.ext {w w' : World} {B : Nat} {A : Option Addr} {c : Nat} {L : List LB} (h : Bats w B A c L) (hf : Ext w w') : Bats w' B A c L := h.fr (Fr.of_ext (S := fun _ => True) hf) (fun _ _ _ => trivial)
/-- one batch more -/
theorem Bats.push {w w' : World} {B : Nat} {A A' : Option Addr} {c c' : Nat} {L : List LB} {q : LB} {o : Obj} (h : Bats w B A c L) (hq : q.At w B) (hn : ∀ g, ownBlk A = some g → g < q.lo ∨ q.hi ≤ g)
    (ho : Own w' B 25 LB.cells 2 A' c' (L ++ [q])) (hg : (w.alloc o).grownBy w' (ownBlk A)) (hblk : ∀ g, ownBlk A' = some g → ownBlk A = some g ∨ w.heap.size ≤ g) : Bats w' B A' c' (L ++ [q]) := by
  have hz : w.heap.size + 1 ≤ w'.heap.size := by have := hg.size; simpa using this
  have key : ∀ p : LB, p.At w B → (∀ g, ownBlk A = some g → g < p.lo ∨ p.hi ≤ g) → p.At w' B ∧ ∀ g, ownBlk A' = some g → g < p.lo ∨ p.hi ≤ g := fun p hp hpn => by
    refine ⟨⟨?_, hp.2.1, by have := hp.2.2; omega⟩, fun g hg' => ?_⟩
    · have h1 : Row (w.alloc o) p.lo p.hi 3 p.A p.b.puts.length (p.b.puts.flatMap Put.cells) := hp.1.keep fun b _ h2 => Below.heap_alloc w o b (Nat.lt_of_lt_of_le h2 hp.2.2)
      exact h1.grown hg (by have := hp.2.2; simp; omega) (fun g e => hpn g e)
    · rcases hblk g hg' with h1 | h1
      · exact hpn g h1
      · exact .inr (Nat.le_trans hp.2.2 h1)
  refine ⟨ho, fun p hp => ?_⟩
  rcases List.mem_append.1 hp with hp | hp
  · exact key p (h.2 p hp).1 (h.2 p hp).2
  · obtain rfl : p = q := by simpa using hp
    exact key p hq hn
end Go.Proofs.Yteplpgknnlehnaa
