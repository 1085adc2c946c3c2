/- Structs within structs, over memory as a list of what lies in it. No program in sight. -/
import Derived.Test.YtjkfoninjpefmaaGreatDoorMem11
namespace Go.Proofs.YtjkfoninjpefmaaGreatDoor
set_option linter.unusedSimpArgs false
set_option linter.unusedVariables false
open Go.RowKit Res

section
variable {P : Program} {S : Nat → Prop} {w0 w : World} {l : List Res} {o : Oper} {a : Act} {K : Act → World → Prop} {Q : Exit → Act → World → Prop}
/-- a struct that lies within a block is written -/
theorem wp_storeAt (M : Mem S w0 l w) (t : TypeId) (x y : Operand) (ho : o.op = .store t x y) (g i : Nat) (hx : a.eval x = .pointer (some ⟨g, i, none⟩)) {u : TypeId} {cs : List Value} {f : Res → List Res}
    (p : Pick l (bx g u cs) f) (ws : List Value) (hn : RowT P t ws.length) (hy : a.eval y = .agg ws.toArray) (hi : i + ws.length ≤ cs.length) (h1 : ws.all (·.oneCell') = true) (cs' : List Value) (hcs : cs.take i ++ (ws ++ cs.drop (i + ws.length)) = cs')
    (h : ∀ w', Mem S w0 (f (bx g u cs')) w' → K (a.put o.dst undef) w') : o.wp P a w K Q := by
  have hsz : (sizeOf t).run P w = .ok ws.length w := (hn w).2
  unfold Oper.wp execOp
  simp only [ho, hx, hy, Instr.storeAt, Instr.sureAddr, Sem.run_bind, Sem.run_pure, Result.andThen_ok, run_store_setCells (M.box p) (i := i) (v := .agg ws.toArray) (ws := ws) (by simp; omega) rfl hsz h1]
  have hl : (cs.take i).length = i := by rw [List.length_take]; omega
  have hd : ((cs.drop i).take ws.length ++ (cs.drop i).drop ws.length) = cs.drop i := List.take_append_drop _ _
  obtain ⟨h2, h3⟩ := box_setCells (g := g) (u := u) ws (cs.take i) (cs.drop i) w (by have := M.box p; rw [List.append_assoc, hd, List.take_append_drop]; exact this) (by rw [List.length_drop]; omega)
  rw [hl] at h2 h3
  refine h _ (M.put p (Fr.mono h3 (fun _ _ h e => h e)) _ ?_ (fun _ h => .inl h))
  rw [← hcs, ← List.append_assoc, ← List.drop_drop]
  exact h2
/-- a struct that lies within a block is read -/
theorem wp_loadAt (M : Mem S w0 l w) (t : TypeId) (x : Operand) (ho : o.op = .load t x) (g i : Nat) (hx : a.eval x = .pointer (some ⟨g, i, none⟩)) {u : TypeId} {cs : List Value} {f : Res → List Res}
    (p : Pick l (bx g u cs) f) (ws : List Value) (hn : RowT P t ws.length) (hw : (cs.drop i).take ws.length = ws) (h : K (a.put o.dst (.agg ws.toArray)) w) : o.wp P a w K Q := by
  have hb := M.box p
  unfold Oper.wp execOp
  simp only [ho, hx, Instr.loadAt, Instr.sureAddr, Sem.run_bind, Sem.run_pure, Result.andThen_ok, run_loadVar_cells (w := w) hn (g := g) (i := i) (fun j u hu => by
    rw [hb.cell]
    rw [← hw] at hu
    have hj : j < ws.length := by
      have := (List.getElem?_eq_some_iff.1 hu).1
      rw [List.length_take] at this
      omega
    rw [List.getElem?_take_of_lt hj, List.getElem?_drop] at hu
    simpa using hu)]
  exact h
/-- a byte of a text -/
theorem wp_indexT (t : TypeId) (x y : Operand) (ho : o.op = .index t x y) (ht : P.underlying t = some .string) (s : List UInt8) (hx : a.eval x = str s) (k : IntKind) (i : Nat) (hy : a.eval y = .int k i) (c : UInt8) (hc : s[i]? = some c)
    (h : K (a.put o.dst (.int .u8 (c.toNat : Int))) w) : o.wp P a w K Q := by
  have hi : i < s.length := (List.getElem?_eq_some_iff.1 hc).1
  have hg : (⟨s.toArray⟩ : ByteArray)[i]? = some c := by
    have hsz : i < (⟨s.toArray⟩ : ByteArray).size := by show i < s.toArray.size; simpa using hi
    rw [getElem?_pos _ i hsz]
    have h1 : (⟨s.toArray⟩ : ByteArray)[i] = s[i] := by show s.toArray[i] = s[i]; simp
    rw [h1, ← hc, List.getElem?_eq_getElem hi]
  unfold Oper.wp execOp
  have hu := run_underlying ht w
  simp only [ho, hx, hy, Instr.index, asIntOf, Sem.run_bind, Sem.run_pure, Result.andThen_ok, hu]
  rw [if_pos (by omega), Int.toNat_natCast, hg]
  simp only [Sem.run_bind, Sem.run_pure, Result.andThen_ok]
  exact h
theorem run_cutT {t : TypeId} (ht : P.underlying t = some .string) (s : List UInt8) (k k' : IntKind) (i j : Nat) (hij : i ≤ j) (hj : j ≤ s.length) (r : List UInt8) (hr : (s.drop i).take (j - i) = r) (w : World) : (Instr.sliceAt t (str s) (some (.int k i)) (some (.int k' j)) none).run P w = .ok (str r) w := by
  have hu := run_underlying ht w
  have hs : (⟨s.toArray⟩ : ByteArray).size = s.length := by show s.toArray.size = _; simp
  have he : (⟨s.toArray⟩ : ByteArray).extract i j = ⟨r.toArray⟩ := by
    rw [← hr]
    apply ByteArray.ext
    simp
  simp only [Instr.sliceAt, Instr.slice, Instr.sliceBounds, Instr.sliceBound, asIntOf, Sem.run_bind, Sem.run_pure, Result.andThen_ok, hu, hs, Option.isSome_none, Bool.false_eq_true, if_false]
  rw [if_pos (by omega)]
  simp only [Sem.run_bind, Sem.run_pure, Result.andThen_ok, Int.toNat_natCast]
  rw [if_pos (by omega)]
  simp only [Sem.run_bind, Sem.run_pure, Result.andThen_ok, Int.toNat_natCast, he]
/-- a part of a text -/
theorem wp_cutT (t : TypeId) (x y z : Operand) (ho : o.op = .slice t x (some y) (some z) none) (ht : P.underlying t = some .string) (s : List UInt8) (hx : a.eval x = str s) (k k' : IntKind) (i j : Nat) (hy : a.eval y = .int k i) (hz : a.eval z = .int k' j) (hij : i ≤ j) (hj : j ≤ s.length) (r : List UInt8) (hr : (s.drop i).take (j - i) = r)
    (h : K (a.put o.dst (str r)) w) : o.wp P a w K Q := by
  have hu := run_underlying ht w
  have hs : (⟨s.toArray⟩ : ByteArray).size = s.length := by show s.toArray.size = _; simp
  have he : (⟨s.toArray⟩ : ByteArray).extract i j = ⟨r.toArray⟩ := by
    rw [← hr]
    apply ByteArray.ext
    simp
  unfold Oper.wp execOp
  simp only [ho, hx, hy, hz, Option.map_some, Option.map_none, Instr.sliceAt, Instr.slice, Instr.sliceBounds, Instr.sliceBound, asIntOf, Sem.run_bind, Sem.run_pure, Result.andThen_ok, hu, hs, Option.isSome_none, Bool.false_eq_true, if_false]
  rw [if_pos (by omega)]
  simp only [Sem.run_bind, Sem.run_pure, Result.andThen_ok, Int.toNat_natCast]
  rw [if_pos (by omega)]
  simp only [Sem.run_bind, Sem.run_pure, Result.andThen_ok, Int.toNat_natCast, he]
  exact h
/-- the rest of a text -/
theorem wp_restT (t : TypeId) (x y : Operand) (ho : o.op = .slice t x (some y) none none) (ht : P.underlying t = some .string) (s : List UInt8) (hx : a.eval x = str s) (k : IntKind) (i : Nat) (hy : a.eval y = .int k i) (hj : i ≤ s.length) (r : List UInt8) (hr : s.drop i = r)
    (h : K (a.put o.dst (str r)) w) : o.wp P a w K Q := by
  have hu := run_underlying ht w
  have hs : (⟨s.toArray⟩ : ByteArray).size = s.length := by show s.toArray.size = _; simp
  have he : (⟨s.toArray⟩ : ByteArray).extract i s.length = ⟨r.toArray⟩ := by
    rw [← hr]
    apply ByteArray.ext
    simp
    exact List.take_of_length_le (by rw [List.length_drop]; exact Nat.le_refl _)
  unfold Oper.wp execOp
  simp only [ho, hx, hy, Option.map_some, Option.map_none, Instr.sliceAt, Instr.slice, Instr.sliceBounds, Instr.sliceBound, asIntOf, Sem.run_bind, Sem.run_pure, Result.andThen_ok, hu, hs, Option.isSome_none, Bool.false_eq_true, if_false]
  rw [if_pos (by omega)]
  simp only [Sem.run_bind, Sem.run_pure, Result.andThen_ok, Int.toNat_natCast, he]
  exact h
variable {dst : Option Tmp} {t t' ty : TypeId} {x y : Operand} {pos : String} {after : Array Edge} {gd : Option (Nat × Bool)}
theorem on_indexT (h : (Oper.mk dst (.index t x y) ty pos after gd).wp P a w K Q) : (Oper.mk dst (.index t x y) ty pos after gd).wp P a w K Q := h
theorem on_cutT {y z u : Option Operand} (h : (Oper.mk dst (.slice t x y z u) ty pos after gd).wp P a w K Q) : (Oper.mk dst (.slice t x y z u) ty pos after gd).wp P a w K Q := h
theorem on_conv (h : (Oper.mk dst (.convert t t' x) ty pos after gd).wp P a w K Q) : (Oper.mk dst (.convert t t' x) ty pos after gd).wp P a w K Q := h
end
section
variable {P : Program} {S : Nat → Prop} {w0 w : World} {l : List Res} {Q : Exit → Act → World → Prop} {a a0 : Act} {L : List Oper} {i m : Nat} {sch : List (Nat × Bool)} {ss : List Nat} {dst : Option Tmp} {t ty : TypeId} {x : Operand} {pos : String} {after : Array Edge}
/-- a guarded load that is made -/
theorem sch_load1G {gd : Option (Nat × Bool)} (M : Mem S w0 l w) (s : Nat) (ho : L[i]? = some (Oper.mk dst (.load t x) ty pos after gd)) (hw : Region.wanted (Oper.mk dst (.load t x) ty pos after gd) (yielded L.toArray a.tmps) = true) (hs : s ∈ ss) (g j : Nat) (hb : a0.eval (.tmp s) = .pointer (some ⟨g, j, none⟩)) (k : Nat) (hx : a.eval x = .pointer (some ⟨g, k, none⟩)) {u : TypeId} {cs : List Value} {f : Res → List Res}
    (p : Pick l (bx g u cs) f) (hn : OneT P t) (v : Value) (hv : cs[k]? = some v) (h : wpSch P L.toArray Q (keepR a0 ss) m sch (a.put dst v) w) : wpSch P L.toArray Q (keepR a0 ss) m ((i, true) :: sch) a w :=
  wpSch_q v ho hw (fun w' hR => ex_load1 t x rfl ⟨g, k, none⟩ hx hn v (hR.2 s hs g j hb k v (by rw [(M.box p).cell]; simpa using hv))) h
end
end Go.Proofs.YtjkfoninjpefmaaGreatDoor
