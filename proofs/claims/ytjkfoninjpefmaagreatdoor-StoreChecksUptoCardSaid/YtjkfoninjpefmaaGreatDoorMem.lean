/- Memory of a call's own, as a list of what lies in it: each thing has blocks of its own. No program in sight. -/
import Derived.Test.YtjkfoninjpefmaaGreatDoorFr
import Derived.Deep.MidRow
namespace Go.Proofs.YtjkfoninjpefmaaGreatDoor
set_option linter.unusedSimpArgs false
set_option linter.unusedVariables false
open Go.RowKit

/-- a slot is written by the kit's own program, not by simp: the goal turns into one of a move of a constant -/
theorem fastK (P : Program) {K : Act → World → Prop} {a : Act} {d : Tmp} {dst : Option Tmp} {v : Value} {w : World} (hd : dst = some d) (h : (Oper.mk (some d) (.move (.const v)) 0 "" #[] none).wp P a w K (fun _ _ _ => True)) : K (a.put dst v) w := by subst hd; exact h
theorem fastN {K : Act → World → Prop} {a : Act} {dst : Option Tmp} {v : Value} {w : World} (hd : dst = none) (h : K a w) : K (a.put dst v) w := by subst hd; exact h

/-- a block of cells; a slice that owns its row -/
inductive Res : Type 1 where
  | bx (g : Nat) (t : TypeId) (cs : List Value)
  | ow {α : Type} (e : TypeId) (f : α → List Value) (sz : Nat) (A : Option Addr) (c : Nat) (l : List α)
namespace Res
def fp : Res → Nat → Prop
  | bx g _ _, b => b = g
  | ow _ _ _ A _ _, b => ownBlk A = some b
def at_ : Res → World → Prop
  | bx g t cs, w => Box w g t cs.toArray
  | ow e f sz A c l, w => Own w 0 e f sz A c l
theorem low {r : Res} {w : World} {b : Nat} (h : r.at_ w) (hb : r.fp b) : b < w.heap.size := by
  cases r with
  | bx g t cs => obtain rfl : b = g := hb; exact Box.lt h
  | ow e f sz A c l => exact (Own.blk h b hb).2
theorem keep {r : Res} {w w' : World} (h : r.at_ w) (hk : ∀ b, r.fp b → w'.heap[b]? = w.heap[b]?) : r.at_ w' := by
  cases r with
  | bx g t cs => exact Box.keep h (hk g rfl)
  | ow e f sz A c l =>
    obtain ⟨h1, h2⟩ := h
    refine ⟨h1, ?_⟩
    rcases h2 with h2 | ⟨g, cap, cur, hv, hg, hh, r⟩
    · exact .inl h2
    · refine .inr ⟨g, cap, cur, hv, hg, (hk g ?_).trans hh, r⟩
      injection hv with hv
      show ownBlk A = some g
      rw [hv]; rfl
end Res
open Res

/-- one of the list, and the list with another one in its place -/
inductive Pick : List Res → Res → (Res → List Res) → Prop where
  | head {c : Res} {l : List Res} : Pick (c :: l) c (fun d => d :: l)
  | tail {b c : Res} {l : List Res} {f : Res → List Res} : Pick l c f → Pick (b :: l) c (fun d => b :: f d)
theorem Pick.split {l : List Res} {c : Res} {f : Res → List Res} (h : Pick l c f) : ∃ A B, l = A ++ c :: B ∧ ∀ d, f d = A ++ d :: B := by
  induction h with
  | head => exact ⟨[], _, rfl, fun _ => rfl⟩
  | tail _ ih =>
    obtain ⟨A, B, e, k⟩ := ih
    exact ⟨_ :: A, B, by rw [e]; rfl, fun d => congrArg (_ :: ·) (k d)⟩
theorem Pick.mem {l : List Res} {c : Res} {f : Res → List Res} (h : Pick l c f) : c ∈ l := by
  obtain ⟨A, B, rfl, _⟩ := h.split
  simp

/-- what the call's own memory holds at w: the blocks that S names are as they were at w0 -/
structure Mem (S : Nat → Prop) (w0 : World) (l : List Res) (w : World) : Prop where
  fr : Fr S w0 w
  lo : ∀ x, S x → x < w0.heap.size
  all : ∀ r ∈ l, r.at_ w
  out : ∀ r ∈ l, ∀ b, r.fp b → ¬ S b
  apart : l.Pairwise fun r s => ∀ b, r.fp b → ¬ s.fp b
namespace Mem
variable {S : Nat → Prop} {w0 w w' : World} {l : List Res}
theorem start (w : World) : Mem (· < w.heap.size) w [] w := ⟨Fr.refl w, fun _ h => h, by simp, by simp, List.Pairwise.nil⟩
theorem ext (M : Mem S w0 l w) (h : Ext w w') : Mem S w0 l w' :=
  ⟨M.fr.ext_step h, M.lo, fun r hr => Res.keep (M.all r hr) fun b hb => h.block b (Res.low (M.all r hr) hb), M.out, M.apart⟩
theorem drew (M : Mem S w0 l w) : Mem S w0 l w.drew := M.ext (Ext.dr w)
theorem new (M : Mem S w0 l w) (h : Ext w w') (r : Res) (hr : r.at_ w') (hf : ∀ b, r.fp b → w.heap.size ≤ b) : Mem S w0 (r :: l) w' := by
  have M' := M.ext h
  refine ⟨M'.fr, M.lo, fun s hs => ?_, fun s hs b hb hS => ?_, List.pairwise_cons.2 ⟨fun s hs b hb hb' => ?_, M.apart⟩⟩
  · rcases List.mem_cons.1 hs with rfl | hs
    · exact hr
    · exact M'.all s hs
  · rcases List.mem_cons.1 hs with rfl | hs
    · have := hf b hb
      have := M.lo b hS
      have := M.fr.size
      omega
    · exact M.out s hs b hb hS
  · have := hf b hb
    have := Res.low (M.all s hs) hb'
    omega
theorem al (M : Mem S w0 l w) (t : TypeId) (cs : List Value) : Mem S w0 (bx w.heap.size t cs :: l) (w.alloc (.cells cs.toArray t)) :=
  M.new (Ext.al w _) (bx w.heap.size t cs) (Box.new w t _) (fun b hb => Nat.le_of_eq (Eq.symm hb))
theorem nil_ (M : Mem S w0 l w) {α : Type} (e : TypeId) (f : α → List Value) (sz : Nat) : Mem S w0 (ow e f sz none 0 [] :: l) w :=
  M.new (Below.refl _ _) _ (Own.nil_ (f := f)) (fun b hb => by cases hb)
theorem put {r : Res} {f : Res → List Res} (M : Mem S w0 l w) (p : Pick l r f) (h : Fr (fun b => ¬ r.fp b) w w') (r' : Res) (hr : r'.at_ w') (hf : ∀ b, r'.fp b → r.fp b ∨ w.heap.size ≤ b) : Mem S w0 (f r') w' := by
  obtain ⟨A, B, rfl, hk⟩ := p.split
  rw [hk]
  have hap := List.pairwise_append.1 M.apart
  have hap2 := List.pairwise_cons.1 hap.2.1
  have hlow : ∀ s ∈ A ++ r :: B, ∀ b, s.fp b → b < w.heap.size := fun s hs b hb => Res.low (M.all s hs) hb
  have hA : ∀ s ∈ A, ∀ b, s.fp b → ¬ r.fp b := fun s hs b => hap.2.2 s hs r (by simp) b
  have hB : ∀ s ∈ B, ∀ b, s.fp b → ¬ r.fp b := fun s hs b hb hr => hap2.1 s hs b hr hb
  have hr' : ∀ s, (s ∈ A ∨ s ∈ B) → ∀ b, r'.fp b → ¬ s.fp b := fun s hs b hb hsb => by
    have hm : s ∈ A ++ r :: B := by rcases hs with hs | hs <;> simp [hs]
    rcases hf b hb with h1 | h1
    · rcases hs with hs | hs
      · exact hA s hs b hsb h1
      · exact hB s hs b hsb h1
    · have := hlow s hm b hsb; omega
  refine ⟨M.fr.step h (fun x _ hS hrx => M.out r (by simp) x hrx hS), M.lo, fun s hs => ?_, fun s hs b hb hS => ?_, ?_⟩
  · rcases List.mem_append.1 hs with hs | hs
    · exact Res.keep (M.all s (by simp [hs])) fun b hb => h.block b (hlow s (by simp [hs]) b hb) (hA s hs b hb)
    · rcases List.mem_cons.1 hs with rfl | hs
      · exact hr
      · exact Res.keep (M.all s (by simp [hs])) fun b hb => h.block b (hlow s (by simp [hs]) b hb) (hB s hs b hb)
  · rcases List.mem_append.1 hs with hs | hs
    · exact M.out s (by simp [hs]) b hb hS
    · rcases List.mem_cons.1 hs with rfl | hs
      · rcases hf b hb with h1 | h1
        · exact M.out r (by simp) b h1 hS
        · have := M.lo b hS
          have := M.fr.size
          omega
      · exact M.out s (by simp [hs]) b hb hS
  · refine List.pairwise_append.2 ⟨hap.1, List.pairwise_cons.2 ⟨fun s hs b hb => hr' s (.inr hs) b hb, hap2.2⟩, fun s hs t ht b hb => ?_⟩
    rcases List.mem_cons.1 ht with rfl | ht
    · exact fun hb' => hr' s (.inl hs) b hb' hb
    · exact hap.2.2 s hs t (by simp [ht]) b hb
theorem get {r : Res} {f : Res → List Res} (M : Mem S w0 l w) (p : Pick l r f) : r.at_ w := M.all r p.mem
theorem box {g : Nat} {t : TypeId} {cs : List Value} {f : Res → List Res} (M : Mem S w0 l w) (p : Pick l (bx g t cs) f) : Box w g t cs.toArray := M.get p
theorem own {α : Type} {e : TypeId} {f : α → List Value} {sz : Nat} {A : Option Addr} {c : Nat} {xs : List α} {F : Res → List Res} (M : Mem S w0 l w) (p : Pick l (ow e f sz A c xs) F) : Own w 0 e f sz A c xs := M.get p
theorem set {g : Nat} {t : TypeId} {cs : List Value} {f : Res → List Res} (M : Mem S w0 l w) (p : Pick l (bx g t cs) f) (i : Nat) (v : Value) : Mem S w0 (f (bx g t (cs.set i v))) (w.setCell ⟨g, i, none⟩ v) :=
  M.put p (Fr.set (p := ⟨g, i, none⟩) (Fr.refl w) v (fun _ h => h (rfl : g = g))) _ (by
    have := (M.box p).put i v
    show Box _ g t (cs.set i v).toArray
    simpa using this) (fun _ h => .inl h)
theorem leave {r : Res} (M : Mem S w0 (r :: l) w) : Mem S w0 l w :=
  ⟨M.fr, M.lo, fun s hs => M.all s (by simp [hs]), fun s hs => M.out s (by simp [hs]), (List.pairwise_cons.1 M.apart).2⟩
theorem ext_of (M : Mem (· < w.heap.size) w l w') : Ext w w' := M.fr.ext fun _ h => h
end Mem

/-! ## the operations -/
abbrev OneT (P : Program) (t : TypeId) : Prop := ∀ w, (isAgg t).run P w = .ok false w ∧ (sizeOf t).run P w = .ok 1 w
abbrev RowT (P : Program) (t : TypeId) (n : Nat) : Prop := ∀ w, (isAgg t).run P w = .ok true w ∧ (sizeOf t).run P w = .ok n w
section
variable {P : Program} {S : Nat → Prop} {w0 w : World} {l : List Res} {o : Oper} {a : Act} {K : Act → World → Prop} {Q : Exit → Act → World → Prop}

theorem run_loadVar_one {t : TypeId} (ht : OneT P t) {p : Addr} {v : Value} (hv : w.cell? p = some v) : (loadVar t p).run P w = .ok v w := by
  simp [loadVar, Sem.run_bind, (ht w).1, run_load, hv]
theorem run_loadVar_cells {t : TypeId} {g i : Nat} {cs : List Value} (ht : RowT P t cs.length) (hc : ∀ j u, cs[j]? = some u → w.cell? ⟨g, i + j, none⟩ = some u) : (loadVar t ⟨g, i, none⟩).run P w = .ok (.agg cs.toArray) w := by
  have hl : (loadCells ⟨g, i, none⟩ cs.length).run P w = .ok cs.toArray w :=
    run_loadCells_list (P := P) w ⟨g, i, none⟩ cs (fun j v hv => by rw [Addr.add_mid]; exact hc j v hv)
  simp [loadVar, Sem.run_bind, (ht w).1, (ht w).2, hl]
theorem run_loadVar_box {t u : TypeId} {g : Nat} {cs : List Value} (ht : RowT P t cs.length) (hb : Box w g u cs.toArray) : (loadVar t ⟨g, 0, none⟩).run P w = .ok (.agg cs.toArray) w :=
  run_loadVar_cells ht fun j v hv => by rw [Nat.zero_add, hb.cell]; simpa using hv

theorem wp_load1 (M : Mem S w0 l w) (t : TypeId) (x : Operand) (ho : o.op = .load t x) (g i : Nat) (hx : a.eval x = .pointer (some ⟨g, i, none⟩)) {u : TypeId} {cs : List Value} {f : Res → List Res}
    (p : Pick l (bx g u cs) f) (hn : OneT P t) (v : Value) (hv : cs[i]? = some v) (h : K (a.put o.dst v) w) : o.wp P a w K Q := by
  have hc : w.cell? ⟨g, i, none⟩ = some v := by rw [(M.box p).cell]; simpa using hv
  unfold Oper.wp execOp
  simp only [ho, hx, Instr.loadAt, Instr.sureAddr, Sem.run_bind, Sem.run_pure, Result.andThen_ok, run_loadVar_one hn hc]
  exact h
theorem wp_loadN (M : Mem S w0 l w) (t : TypeId) (x : Operand) (ho : o.op = .load t x) (g : Nat) (hx : a.eval x = .pointer (some ⟨g, 0, none⟩)) {u : TypeId} {cs : List Value} {f : Res → List Res}
    (p : Pick l (bx g u cs) f) (hn : RowT P t cs.length) (h : K (a.put o.dst (.agg cs.toArray)) w) : o.wp P a w K Q := by
  unfold Oper.wp execOp
  simp only [ho, hx, Instr.loadAt, Instr.sureAddr, Sem.run_bind, Sem.run_pure, Result.andThen_ok, run_loadVar_box hn (M.box p)]
  exact h
theorem ex_load1 {w' : World} (t : TypeId) (x : Operand) (ho : o.op = .load t x) (p : Addr) (hx : a.eval x = .pointer (some p)) (hn : OneT P t) (v : Value) (hv : w'.cell? p = some v) : (execOp a.eval o).run P w' = .ok (.value v) w' := by
  unfold execOp
  simp only [ho, hx, Instr.loadAt, Instr.sureAddr, Sem.run_bind, Sem.run_pure, Result.andThen_ok, run_loadVar_one hn hv]
theorem run_store_setCells {t : TypeId} {g i : Nat} {v : Value} {ws : List Value} {u : TypeId} {cs : Array Value} (hb : Box w g u cs) (hi : i + ws.length ≤ cs.size) (hv : v.cells = ws.toArray) (hn : (sizeOf t).run P w = .ok ws.length w) (h1 : ws.all (·.oneCell') = true) :
    (storeVar t ⟨g, i, none⟩ v).run P w = .ok () (w.setCells g i ws) := by
  have := run_storeCells_cells (P := P) g i ws 0 w (fun j hj => by rw [hb.cell]; simp; omega) (fun j hj => hb.frozen _) (fun v hv => (List.all_eq_true.1 h1) v hv)
  simp only [Nat.add_zero] at this
  simp [storeVar, Sem.run_bind, hn, hv, this]
theorem box_setCells {g : Nat} {u : TypeId} : ∀ (ws A B : List Value) (w : World), Box w g u (A ++ (B.take ws.length) ++ B.drop ws.length).toArray → ws.length ≤ B.length → Box (w.setCells g A.length ws) g u (A ++ ws ++ B.drop ws.length).toArray ∧ Fr (· ≠ g) w (w.setCells g A.length ws)
  | [], A, B, w, h, _ => ⟨by simpa [World.setCells] using h, by simpa [World.setCells] using Fr.refl w⟩
  | v :: ws, A, [], w, _, hl => by simp at hl
  | v :: ws, A, b :: B, w, h, hl => by
    have h1 := h.put A.length v
    have h2 : ((A ++ List.take (v :: ws).length (b :: B) ++ List.drop (v :: ws).length (b :: B)).toArray.setIfInBounds A.length v) = ((A ++ [v]) ++ B.take ws.length ++ B.drop ws.length).toArray := by
      simp
    rw [h2] at h1
    obtain ⟨h3, h4⟩ := box_setCells ws (A ++ [v]) B _ h1 (by simpa using hl)
    have e : (A ++ [v]).length = A.length + 1 := by simp
    rw [e] at h3 h4
    refine ⟨?_, ?_⟩
    · simpa [World.setCells] using h3
    · exact ((Fr.refl w).set v (fun _ h => h rfl)).trans h4
/-- a value's cells -/
inductive CellsOf : Value → List Value → Prop where
  | agg (cs : List Value) : CellsOf (.agg cs.toArray) cs
  | int (k : IntKind) (n : Int) : CellsOf (.int k n) [.int k n]
  | str (s : ByteArray) : CellsOf (.string s) [.string s]
  | bool (b : Bool) : CellsOf (.bool b) [.bool b]
  | slice (A : Option Addr) (n c : Nat) : CellsOf (.slice A n c) [.slice A n c]
  | pointer (p : Option Addr) : CellsOf (.pointer p) [.pointer p]
theorem CellsOf.eq {v : Value} {cs : List Value} (h : CellsOf v cs) : v.cells = cs.toArray := by cases h <;> rfl
theorem wp_store1 (M : Mem S w0 l w) (t : TypeId) (x y : Operand) (ho : o.op = .store t x y) (g i : Nat) (hx : a.eval x = .pointer (some ⟨g, i, none⟩)) {u : TypeId} {cs : List Value} {f : Res → List Res}
    (p : Pick l (bx g u cs) f) (hn : OneT P t) (v : Value) (hco : CellsOf (a.eval y) [v]) (h1 : v.oneCell' = true) (hi : i < cs.length)
    (h : ∀ w', Mem S w0 (f (bx g u (cs.set i v))) w' → K (a.put o.dst undef) w') : o.wp P a w K Q := by
  have hsz : (sizeOf t).run P w = .ok [v].length w := (hn w).2
  unfold Oper.wp execOp
  simp only [ho, hx, Instr.storeAt, Instr.sureAddr, Sem.run_bind, Sem.run_pure, Result.andThen_ok, run_store_setCells (M.box p) (i := i) (ws := [v]) (by simp; omega) hco.eq hsz (by simp [h1])]
  exact h _ (M.set p i v)
theorem wp_storeN (M : Mem S w0 l w) (t : TypeId) (x y : Operand) (ho : o.op = .store t x y) (g : Nat) (hx : a.eval x = .pointer (some ⟨g, 0, none⟩)) {u : TypeId} {cs : List Value} {f : Res → List Res}
    (p : Pick l (bx g u cs) f) (hn : RowT P t cs.length) (ws : List Value) (hy : a.eval y = .agg ws.toArray) (hl : ws.length = cs.length) (h1 : ws.all (·.oneCell') = true)
    (h : ∀ w', Mem S w0 (f (bx g u ws)) w' → K (a.put o.dst undef) w') : o.wp P a w K Q := by
  have hsz : (sizeOf t).run P w = .ok ws.length w := by rw [hl]; exact (hn w).2
  unfold Oper.wp execOp
  simp only [ho, hx, hy, Instr.storeAt, Instr.sureAddr, Sem.run_bind, Sem.run_pure, Result.andThen_ok, run_store_setCells (M.box p) (i := 0) (v := .agg ws.toArray) (ws := ws) (by simp; omega) rfl hsz h1]
  obtain ⟨h2, h3⟩ := box_setCells (g := g) (u := u) ws [] cs w (by have := M.box p; rw [List.nil_append, List.take_append_drop]; exact this) (by omega)
  refine h _ (M.put p (Fr.mono h3 (fun _ _ h e => h e)) _ ?_ (fun _ h => .inl h))
  have e : cs.drop ws.length = [] := by rw [hl]; simp
  rw [e] at h2
  show Box _ g u ws.toArray
  simpa using h2
theorem wp_box (M : Mem S w0 l w) (t : TypeId) (x : Operand) (ho : o.op = .box t x) (cs : List Value) (hco : CellsOf (a.eval x) cs)
    (h : ∀ g w', Mem S w0 (bx g t cs :: l) w' → K (a.put o.dst (.pointer (some ⟨g, 0, none⟩))) w') : o.wp P a w K Q := by
  have M' := M.al t cs
  have hc := hco.eq
  unfold Oper.wp execOp
  simp only [ho, Instr.box, newVar, newRow, hc]
  go_simp
  exact h _ _ M'
theorem wp_alloc (M : Mem S w0 l w) (t : TypeId) (ho : o.op = .alloc t) (v : Value) (hz : (zeroValue t).run P w = .ok v w) (cs : List Value) (hco : CellsOf v cs)
    (h : ∀ g w', Mem S w0 (bx g t cs :: l) w' → K (a.put o.dst (.pointer (some ⟨g, 0, none⟩))) w') : o.wp P a w K Q := by
  have M' := M.al t cs
  have hc := hco.eq
  unfold Oper.wp execOp
  simp only [ho, Instr.alloc, newVar, newRow, Sem.run_bind, hz, Result.andThen_ok, hc]
  go_simp
  exact h _ _ M'
/-- a slice of one element, made for an append -/
theorem wp_single (M : Mem S w0 l w) {t e : TypeId} {sz bytes : Nat} (E : ElemOf P t e sz bytes) (x : Operand) (ho : o.op = .buildSlice t 1 #[(0, x)]) (cs : List Value) (hco : CellsOf (a.eval x) cs) (hl : cs.length = sz) (hsm : sz ≤ 16777216)
    (h : ∀ g w', Mem S w0 (bx g e cs :: l) w' → K (a.put o.dst (.slice (some ⟨g, 0, none⟩) 1 1)) w') : o.wp P a w K Q := by
  have M' := M.al e cs
  have hc := hco.eq
  obtain ⟨i, z, hi, hz, hsz, hby, hzs⟩ := E.info
  have hp := E.pos
  have hze : (zeroValue e).run P w = .ok z w := by simp [zeroValue, typeInfo, hi, hz, Sem.run_bind]
  have hsi : (sizeOf e).run P w = .ok sz w := by simp [sizeOf, typeInfo, hi, hsz, Sem.run_bind]
  have hfill : ∀ C : Array Value, C.size = sz → Instr.fill (fun i => some (i * sz, sz)) C [(0, a.eval x)] = some cs.toArray := fun C hC => by
    unfold Instr.fill
    simp only [Nat.zero_mul, hc, List.size_toArray, hl, hC, Nat.zero_add, ne_eq, not_true, decide_false, gt_iff_lt, Nat.lt_irrefl, Bool.or_self, Bool.false_eq_true, if_false, Instr.fill]
    refine congrArg some ?_
    have key : ∀ (k : Nat), k ≤ sz → ∀ (D : Array Value), D.size = sz → (∀ j, j < sz - k → D[j]? = cs[j]?) → ((cs.toArray.zipIdx.toList.drop (sz - k)).foldl (fun (D : Array Value) (p : Value × Nat) => D.setIfInBounds p.2 p.1) D) = cs.toArray := by
      intro k
      induction k with
      | zero =>
        intro _ D hD hj
        rw [List.drop_of_length_le (by simp; omega)]
        refine Array.ext_getElem? fun j => ?_
        by_cases hjs : j < sz
        · rw [List.foldl_nil, hj j (by omega)]; simp
        · rw [List.foldl_nil, Array.getElem?_eq_none (by omega), Array.getElem?_eq_none (by simp; omega)]
      | succ k ih =>
        intro hk D hD hj
        have hlt : sz - (k + 1) < cs.toArray.zipIdx.toList.length := by simp; omega
        rw [List.drop_eq_getElem_cons hlt, List.foldl_cons, show sz - (k + 1) + 1 = sz - k by omega]
        refine ih (by omega) _ (by simp [hD]) fun j hj' => ?_
        simp only [Array.getElem_toList, Array.getElem_zipIdx, Nat.zero_add, List.getElem_toArray]
        by_cases he : j = sz - (k + 1)
        · subst he
          rw [Array.getElem?_setIfInBounds_self_of_lt (by omega), List.getElem?_eq_getElem (by omega)]
        · rw [Array.getElem?_setIfInBounds_ne (fun e => he e.symm)]
          exact hj j (by omega)
    have := key sz (Nat.le_refl _) C hC (fun j hj => by omega)
    rw [Nat.sub_self, List.drop_zero] at this
    rw [← Array.foldl_toList]
    simpa using this
  unfold Oper.wp execOp
  have hu := run_underlying E.under w
  simp only [ho, Instr.buildSlice, Sem.run_bind, hu, hsi, hze, Result.andThen_ok, Nat.one_mul]
  rw [if_neg (show ¬ sz > 2 ^ 24 by omega), if_neg (show ¬ sz = 0 by omega)]
  simp only [Sem.run_bind, Sem.run_pure, hze, Result.andThen_ok, List.map_toArray, List.map_cons, List.map_nil]
  rw [hfill _ (by simp)]
  go_simp
  exact h _ _ M'

/-! ### an operation written out: a refine that does not fit fails by looking -/
variable {dst : Option Tmp} {t ty : TypeId} {x y : Operand} {pos : String} {after : Array Edge} {gd : Option (Nat × Bool)}
theorem on_load (h : (Oper.mk dst (.load t x) ty pos after gd).wp P a w K Q) : (Oper.mk dst (.load t x) ty pos after gd).wp P a w K Q := h
theorem on_store (h : (Oper.mk dst (.store t x y) ty pos after gd).wp P a w K Q) : (Oper.mk dst (.store t x y) ty pos after gd).wp P a w K Q := h
theorem on_box (h : (Oper.mk dst (.box t x) ty pos after gd).wp P a w K Q) : (Oper.mk dst (.box t x) ty pos after gd).wp P a w K Q := h
theorem on_alloc (h : (Oper.mk dst (.alloc t) ty pos after gd).wp P a w K Q) : (Oper.mk dst (.alloc t) ty pos after gd).wp P a w K Q := h
theorem on_single {n : Nat} {ps : Array (Nat × Operand)} (h : (Oper.mk dst (.buildSlice t n ps) ty pos after gd).wp P a w K Q) : (Oper.mk dst (.buildSlice t n ps) ty pos after gd).wp P a w K Q := h
theorem on_append {xs : Array Operand} {ts : Array TypeId} (h : (Oper.mk dst (.call ⟨.builtin .append, xs, ts⟩) ty pos after gd).wp P a w K Q) : (Oper.mk dst (.call ⟨.builtin .append, xs, ts⟩) ty pos after gd).wp P a w K Q := h
end
end Go.Proofs.YtjkfoninjpefmaaGreatDoor
