/- A slice that is written out, and loops that are unrolled. No program in sight. -/
import Derived.Test.YtjkfoninjpefmaaGreatDoorMem6
import Derived.LoopN
namespace Go.Proofs.YtjkfoninjpefmaaGreatDoor
set_option linter.unusedSimpArgs false
set_option linter.unusedVariables false
open Go.RowKit Res

/-- the parts of a slice that is written out, in order, from place k on, each of sz cells -/
inductive Parts (sz : Nat) : Nat → List (Nat × Value) → List Value → Prop where
  | nil {k : Nat} : Parts sz k [] []
  | cons {k : Nat} {v : Value} {cs : List Value} {ps : List (Nat × Value)} {C : List Value} (h : CellsOf v cs) (hl : cs.length = sz) (hr : Parts sz (k + 1) ps C) : Parts sz k ((k, v) :: ps) (cs ++ C)
theorem Parts.len {sz : Nat} : ∀ {k : Nat} {ps : List (Nat × Value)} {C : List Value}, Parts sz k ps C → C.length = ps.length * sz
  | _, _, _, .nil => by simp
  | _, _, _, .cons _ hl hr => by rw [List.length_append, hl, hr.len, List.length_cons, Nat.succ_mul, Nat.add_comm]
theorem fold_set : ∀ (cs : List Value) (off : Nat) (A B : List Value), A.length = off → cs.length ≤ B.length → ∀ j, (cs.zipIdx j).foldl (fun (D : Array Value) (p : Value × Nat) => D.setIfInBounds (off + p.2 - j) p.1) (A ++ B).toArray = (A ++ cs ++ B.drop cs.length).toArray
  | [], _, A, B, _, _, _ => by simp
  | c :: cs, off, A, [], _, h, _ => by simp at h
  | c :: cs, off, A, b :: B, ha, h, j => by
    rw [List.zipIdx_cons, List.foldl_cons]
    have e1 : ((A ++ b :: B).toArray.setIfInBounds (off + j - j) c) = ((A ++ [c]) ++ B).toArray := by
      rw [Nat.add_sub_cancel]
      subst ha
      simp
    simp only at e1 ⊢
    rw [e1]
    have h2 := fold_set cs (off + 1) (A ++ [c]) B (by simp [ha]) (by simpa using h) (j + 1)
    have e2 : (fun (D : Array Value) (p : Value × Nat) => D.setIfInBounds (off + 1 + p.2 - (j + 1)) p.1) = fun (D : Array Value) (p : Value × Nat) => D.setIfInBounds (off + p.2 - j) p.1 := by
      funext D p
      rw [show off + 1 + p.2 - (j + 1) = off + p.2 - j by omega]
    rw [e2] at h2
    rw [h2]
    simp
theorem fill_parts {sz : Nat} : ∀ {k : Nat} {ps : List (Nat × Value)} {C : List Value}, Parts sz k ps C → ∀ (A B : List Value), A.length = k * sz → B.length = ps.length * sz → Instr.fill (fun i => some (i * sz, sz)) (A ++ B).toArray ps = some (A ++ C).toArray
  | _, _, _, .nil, A, B, _, hB => by
    have : B = [] := by simpa using hB
    subst this
    simp [Instr.fill]
  | k, _, _, .cons (v := v) (cs := cs) (ps := ps) (C := C) h hl hr, A, B, hA, hB => by
    have hc := h.eq
    have hBl : sz ≤ B.length := by rw [hB, List.length_cons, Nat.succ_mul]; omega
    unfold Instr.fill
    simp only [hc, List.size_toArray, hl, List.length_append, hA]
    rw [if_neg (by simp; omega)]
    have hf := fold_set cs (k * sz) A B hA (by omega) 0
    have e : (cs.toArray.zipIdx.foldl (fun D (p : Value × Nat) => D.setIfInBounds (k * sz + p.2) p.1) (A ++ B).toArray) = (A ++ cs ++ B.drop cs.length).toArray := by
      rw [← Array.foldl_toList]
      simpa using hf
    rw [e]
    have := fill_parts hr (A ++ cs) (B.drop cs.length) (by rw [List.length_append, hA, hl, Nat.succ_mul]) (by rw [List.length_drop, hB, hl, List.length_cons, Nat.succ_mul]; omega)
    rw [this, List.append_assoc]
section
variable {P : Program} {S : Nat → Prop} {w0 w : World} {l : List Res} {o : Oper} {a : Act} {K : Act → World → Prop} {Q : Exit → Act → World → Prop}
theorem wp_slice (M : Mem S w0 l w) {t e : TypeId} {sz bytes n : Nat} (E : ElemOf P t e sz bytes) (ps : Array (Nat × Operand)) (ho : o.op = .buildSlice t n ps) (C : List Value) (hp : Parts sz 0 (ps.toList.map fun p => (p.1, a.eval p.2)) C) (hn : ps.size = n) (h0 : 0 < n) (hsm : n * sz ≤ 16777216)
    (h : ∀ g w', Mem S w0 (bx g e C :: l) w' → K (a.put o.dst (.slice (some ⟨g, 0, none⟩) n n)) w') : o.wp P a w K Q := by
  have M' := M.al e C
  obtain ⟨i, z, hi, hz, hsz, hby, hzs⟩ := E.info
  have hpos := E.pos
  have hze : (zeroValue e).run P w = .ok z w := by simp [zeroValue, typeInfo, hi, hz, Sem.run_bind]
  have hsi : (sizeOf e).run P w = .ok sz w := by simp [sizeOf, typeInfo, hi, hsz, Sem.run_bind]
  have hu := run_underlying E.under w
  have hfill : ∀ D : Array Value, D.size = n * sz → Instr.fill (fun i => some (i * sz, sz)) D (ps.toList.map fun p => (p.1, a.eval p.2)) = some C.toArray := fun D hD => by
    have := fill_parts hp [] D.toList (by simp) (by simp [hD, hn])
    simpa using this
  have hnz : 0 < n * sz := Nat.mul_pos h0 hpos
  unfold Oper.wp execOp
  simp only [ho, Instr.buildSlice, Sem.run_bind, hu, hsi, hze, Result.andThen_ok]
  rw [if_neg (show ¬ n * sz > 2 ^ 24 by omega), if_neg (show ¬ n * sz = 0 by omega)]
  simp only [Sem.run_bind, Sem.run_pure, hze, Result.andThen_ok]
  have e : (Array.map (fun (x : Nat × Operand) => (x.1, a.eval x.2)) ps).toList = ps.toList.map fun p => (p.1, a.eval p.2) := by simp
  have hfill' := hfill (Array.map (fun x => z.cells[x % z.cells.size]!) (Array.range (n * sz))) (by simp)
  rw [← e] at hfill'
  rw [hfill']
  go_simp
  exact h _ _ M'
theorem on_slice {dst : Option Tmp} {t ty : TypeId} {n : Nat} {ps : Array (Nat × Operand)} {pos : String} {after : Array Edge} {gd : Option (Nat × Bool)} (h : (Oper.mk dst (.buildSlice t n ps) ty pos after gd).wp P a w K Q) : (Oper.mk dst (.buildSlice t n ps) ty pos after gd).wp P a w K Q := h
theorem rounds_go {c : Code} {n : Nat} (h : c.wp P (Exit.then (Code.rounds P c Q n) Q) a w) : Code.rounds P c Q (n + 1) a w := h
theorem Mem.fars (M : Mem (· < w0.heap.size) w0 l w) {g : Nat} {t : TypeId} {C : Array Value} (B : Box w0 g t C) (i n : Nat) {cs : List Value} (hcs : (C.toList.drop i).take n = cs) : ∀ j u, cs[j]? = some u → w.cell? ⟨g, i + j, none⟩ = some u := fun j u h => by
  subst hcs
  refine M.far ?_
  rw [B.cell]
  rw [List.getElem?_take] at h
  split at h
  · rw [List.getElem?_drop] at h; simpa using h
  · cases h
end
end Go.Proofs.YtjkfoninjpefmaaGreatDoor
