/- A part of memory handed to a call and taken back. No program in sight. -/
import Derived.Test.YtjkfoninjpefmaaGreatDoorMem2
namespace Go.Proofs.YtjkfoninjpefmaaGreatDoor
set_option linter.unusedSimpArgs false
set_option linter.unusedVariables false
open Go.RowKit Res

inductive Take : List Res → Res → List Res → Prop where
  | head {c : Res} {l : List Res} : Take (c :: l) c l
  | tail {b c : Res} {l r : List Res} : Take l c r → Take (b :: l) c (b :: r)
inductive Takes : List Res → List Res → List Res → Prop where
  | nil {l : List Res} : Takes l [] l
  | cons {l m rs rest : List Res} {r : Res} : Take l r m → Takes m rs rest → Takes l (r :: rs) rest
theorem Take.perm {l r : List Res} {c : Res} (h : Take l c r) : l.Perm (c :: r) := by
  induction h with
  | head => exact List.Perm.refl _
  | tail _ ih => exact (ih.cons _).trans (List.Perm.swap _ _ _)
theorem Takes.perm {l rs rest : List Res} (h : Takes l rs rest) : l.Perm (rs ++ rest) := by
  induction h with
  | nil => exact List.Perm.refl _
  | cons t _ ih => exact t.perm.trans (ih.cons _)
/-- the blocks of w that none of these holds -/
def OutOf (rs : List Res) (w : World) (b : Nat) : Prop := b < w.heap.size ∧ ∀ r ∈ rs, ¬ r.fp b
namespace Mem
variable {S : Nat → Prop} {w0 w w' : World} {l rs rest rs' : List Res}
theorem perm (M : Mem S w0 l w) (h : l.Perm rs) : Mem S w0 rs w :=
  ⟨M.fr, M.lo, fun r hr => M.all r (h.mem_iff.2 hr), fun r hr => M.out r (h.mem_iff.2 hr), M.apart.perm h (fun hab b hb ha => hab b ha hb)⟩
theorem app (M : Mem S w0 (rs ++ rest) w) : Mem S w0 rs w :=
  ⟨M.fr, M.lo, fun r hr => M.all r (List.mem_append_left _ hr), fun r hr => M.out r (List.mem_append_left _ hr), (List.pairwise_append.1 M.apart).1⟩
theorem sub (M : Mem S w0 l w) (t : Takes l rs rest) : Mem S w0 rs w := (M.perm t.perm).app
theorem only (M : Mem S w0 l w) (t : Takes l rs rest) : Mem (OutOf rs w) w rs w :=
  ⟨Fr.refl w, fun _ h => h.1, (M.sub t).all, fun r hr b hb h => h.2 r hr hb, (M.sub t).apart⟩
theorem into (M : Mem S w0 l w) (t : Takes l rs rest) (M' : Mem (OutOf rs w) w rs' w') : Mem S w0 (rs' ++ rest) w' := by
  have N := M.perm t.perm
  have hp := List.pairwise_append.1 N.apart
  have hrest : ∀ s ∈ rest, ∀ b, s.fp b → OutOf rs w b := fun s hs b hb => ⟨Res.low (N.all s (List.mem_append_right _ hs)) hb, fun r hr hrb => hp.2.2 r hr s hs b hrb hb⟩
  have hS : ∀ x, x < w0.heap.size → S x → OutOf rs w x := fun x hx hSx => ⟨Nat.lt_of_lt_of_le hx M.fr.size, fun r hr hrx => N.out r (List.mem_append_left _ hr) x hrx hSx⟩
  refine ⟨M.fr.step M'.fr hS, M.lo, fun r hr => ?_, fun r hr b hb hSb => ?_, List.pairwise_append.2 ⟨M'.apart, hp.2.1, fun r hr s hs b hrb hsb => M'.out r hr b hrb (hrest s hs b hsb)⟩⟩
  · rcases List.mem_append.1 hr with hr | hr
    · exact M'.all r hr
    · exact Res.keep (N.all r (List.mem_append_right _ hr)) fun b hb => M'.fr.block b (hrest r hr b hb).1 (hrest r hr b hb)
  · rcases List.mem_append.1 hr with hr | hr
    · exact M'.out r hr b hb (hS b (M.lo b hSb) hSb)
    · exact N.out r (List.mem_append_right _ hr) b hb hSb
/-- a call that turns a row of ours alone, in its place -/
theorem put_ow (M : Mem S w0 l w) {α : Type} {e : TypeId} {f : α → List Value} {sz : Nat} {A : Option Addr} {c : Nat} {xs ys : List α} {F : Res → List Res} (p : Pick l (ow e f sz A c xs) F) (hF : Fr (fun b => ¬ ownBlk A = some b) w w') (h : Own w' 0 e f sz A c ys) : Mem S w0 (F (ow e f sz A c ys)) w' :=
  M.put p hF _ h fun _ hb => .inl hb
/-- a call that only makes memory, and hands out a row of it -/
theorem new_own (M : Mem S w0 l w) {α : Type} {base : Nat} {e : TypeId} {f : α → List Value} {sz : Nat} {A : Option Addr} {c : Nat} {xs : List α} (h : Own w' base e f sz A c xs) (hb : w.heap.size ≤ base) (hX : Ext w w') : Mem S w0 (ow e f sz A c xs :: l) w' :=
  M.new hX _ (h.lower (Nat.zero_le _)) fun b hb' => Nat.le_trans hb (h.blk b hb').1
end Mem
theorem ret_m0 {P : Program} {w : World} {fn : Func} {R : Ending → World → Prop} {a : Act} (hres : fn.results = #[]) (hd : a.defers = []) (h : R (.returned (.tuple #[])) w) : bodyPost P fn R .ret a w := by
  refine bodyPost_ret ?_ hd h
  simp [results, hres]
theorem ret_n0 {P : Program} {w : World} {fn : Func} {R : Ending → World → Prop} {a : Act} (hres : fn.results = #[]) (hd : a.defers = []) (h : R (.returned (.tuple #[])) w) : bodyPost P fn R .normal a w := by
  refine bodyPost_end ?_ hd h
  simp [results, hres]
end Go.Proofs.YtjkfoninjpefmaaGreatDoor
