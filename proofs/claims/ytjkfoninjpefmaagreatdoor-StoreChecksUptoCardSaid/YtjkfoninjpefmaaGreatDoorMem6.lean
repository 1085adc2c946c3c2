/- Regions whose order is left open, over memory as a list of what lies in it: one walk of one schedule; what is read there is not written there. No program in sight. -/
import Derived.Test.YtjkfoninjpefmaaGreatDoorMem5
namespace Go.Proofs.YtjkfoninjpefmaaGreatDoor
set_option linter.unusedSimpArgs false
set_option linter.unusedVariables false
open Go.RowKit Res

/-- what lies at the addresses that these slots hold stays -/
def keepR (a : Act) (ss : List Nat) (w w' : World) : Prop := w.heap.size ≤ w'.heap.size ∧ ∀ s ∈ ss, ∀ g i, a.eval (.tmp s) = .pointer (some ⟨g, i, none⟩) → ∀ o v, w.cell? ⟨g, o, none⟩ = some v → w'.cell? ⟨g, o, none⟩ = some v
def OffB (a : Act) (ss : List Nat) (g : Nat) : Prop := ∀ s ∈ ss, ∀ g' i, a.eval (.tmp s) = .pointer (some ⟨g', i, none⟩) → g' ≠ g
theorem OffB.nil {a : Act} {g : Nat} : OffB a [] g := fun _ h => by cases h
theorem OffB.cons {a : Act} {s : Nat} {ss : List Nat} {g g' i : Nat} (hb : a.eval (.tmp s) = .pointer (some ⟨g', i, none⟩)) (hne : g' ≠ g) (h : OffB a ss g) : OffB a (s :: ss) g := fun t ht k j hk => by
  rcases List.mem_cons.1 ht with rfl | ht
  · rw [hb] at hk
    injection hk with hk
    injection hk with hk
    injection hk with hk
    rw [← hk]; exact hne
  · exact h t ht k j hk
namespace keepR
variable {a : Act} {ss : List Nat} {w w' : World}
theorem refl (w : World) : keepR a ss w w := ⟨Nat.le_refl _, fun _ _ _ _ _ _ _ h => h⟩
theorem trans (x y z : World) (h : keepR a ss x y) (k : keepR a ss y z) : keepR a ss x z := ⟨Nat.le_trans h.1 k.1, fun s hs g i hb o v hv => k.2 s hs g i hb o v (h.2 s hs g i hb o v hv)⟩
theorem ext (h : Ext w w') : keepR a ss w w' := ⟨h.size, fun s _ g i _ o v hv => (h.cell (p := ⟨g, o, none⟩) (block_lt_of_cell hv)).trans hv⟩
theorem fr {g : Nat} (h : Fr (· ≠ g) w w') (ho : OffB a ss g) : keepR a ss w w' :=
  ⟨h.size, fun s hs g' i hb o v hv => (World.cell?_of_block (w := w) (a := ⟨g', o, none⟩) (h.block g' (block_lt_of_cell hv) (ho s hs g' i hb))).trans hv⟩
end keepR
section
variable {P : Program} {S : Nat → Prop} {w0 w : World} {l : List Res} {Q : Exit → Act → World → Prop} {a a0 : Act} {o : Oper} {K : Act → World → Prop}
theorem Mem.ne2 (M : Mem S w0 l w) {g g' : Nat} {u u' : TypeId} {cs cs' : List Value} {rest : List Res} (t : Takes l [bx g u cs, bx g' u' cs'] rest) : g ≠ g' := fun e =>
  (List.pairwise_cons.1 (M.sub t).apart).1 (bx g' u' cs') (by simp) g rfl e
theorem wp_region_keep (M : Mem S w0 l w) (ss : List Nat) {id : Nat} {L : List Oper} (m : Nat) (sch : List (Nat × Bool)) (hm : P.follows .mixedOrders = true) (hB : regionOk L.toArray m sch = true)
    (hQ : ∀ c a d v w, Q (.panic c) (Act.put a d v) w → Q (.panic c) a w) (h : ∀ w', Mem S w0 l w' → wpSch P L.toArray Q (keepR a ss) m sch a w') : (Code.region id L.toArray true).wp P Q a w :=
  wp_region_sch (keepR a ss) m sch hm hB keepR.refl keepR.trans hQ (h w.drew M.drew)
variable {L : List Oper} {i m : Nat} {sch : List (Nat × Bool)} {ss : List Nat} {dst : Option Tmp} {t ty : TypeId} {x : Operand} {pos : String} {after : Array Edge}
theorem sch_load1 (M : Mem S w0 l w) (s : Nat) (ho : L[i]? = some (Oper.mk dst (.load t x) ty pos after none)) (hs : s ∈ ss) (g j : Nat) (hb : a0.eval (.tmp s) = .pointer (some ⟨g, j, none⟩)) (k : Nat) (hx : a.eval x = .pointer (some ⟨g, k, none⟩)) {u : TypeId} {cs : List Value} {f : Res → List Res}
    (p : Pick l (bx g u cs) f) (hn : OneT P t) (v : Value) (hv : cs[k]? = some v) (h : wpSch P L.toArray Q (keepR a0 ss) m sch (a.put dst v) w) : wpSch P L.toArray Q (keepR a0 ss) m ((i, true) :: sch) a w :=
  wpSch_q v ho rfl (fun w' hR => ex_load1 t x rfl ⟨g, k, none⟩ hx hn v (hR.2 s hs g j hb k v (by rw [(M.box p).cell]; simpa using hv))) h
theorem sch_loadN (M : Mem S w0 l w) (s : Nat) (ho : L[i]? = some (Oper.mk dst (.load t x) ty pos after none)) (hs : s ∈ ss) (g j : Nat) (hb : a0.eval (.tmp s) = .pointer (some ⟨g, j, none⟩)) (hx : a.eval x = .pointer (some ⟨g, 0, none⟩)) {u : TypeId} {cs : List Value} {f : Res → List Res}
    (p : Pick l (bx g u cs) f) (hn : RowT P t cs.length) (h : wpSch P L.toArray Q (keepR a0 ss) m sch (a.put dst (.agg cs.toArray)) w) : wpSch P L.toArray Q (keepR a0 ss) m ((i, true) :: sch) a w :=
  wpSch_q (.agg cs.toArray) ho rfl (fun w' hR => by
    unfold execOp
    simp only [hx, Instr.loadAt, Instr.sureAddr, Sem.run_bind, Sem.run_pure, Result.andThen_ok, run_loadVar_cells (w := w') hn (g := g) (i := 0) (fun j' u hu => by
      rw [Nat.zero_add]
      exact hR.2 s hs g j hb j' u (by rw [(M.box p).cell]; simpa using hu))]) h
theorem wp_store1F (M : Mem S w0 l w) (t : TypeId) (x y : Operand) (ho : o.op = .store t x y) (g i : Nat) (hx : a.eval x = .pointer (some ⟨g, i, none⟩)) {u : TypeId} {cs : List Value} {f : Res → List Res}
    (p : Pick l (bx g u cs) f) (hn : OneT P t) (v : Value) (hco : CellsOf (a.eval y) [v]) (h1 : v.oneCell' = true) (hi : i < cs.length)
    (h : ∀ w', Fr (· ≠ g) w w' → Mem S w0 (f (bx g u (cs.set i v))) w' → K (a.put o.dst undef) w') : o.wp P a w K Q := by
  have hsz : (sizeOf t).run P w = .ok [v].length w := (hn w).2
  unfold Oper.wp execOp
  simp only [ho, hx, Instr.storeAt, Instr.sureAddr, Sem.run_bind, Sem.run_pure, Result.andThen_ok, run_store_setCells (M.box p) (i := i) (ws := [v]) (by simp; omega) hco.eq hsz (by simp [h1])]
  exact h _ (Fr.set (p := ⟨g, i, none⟩) (Fr.refl w) v (fun _ h => h rfl)) (M.set p i v)
theorem wp_storeNF (M : Mem S w0 l w) (t : TypeId) (x y : Operand) (ho : o.op = .store t x y) (g : Nat) (hx : a.eval x = .pointer (some ⟨g, 0, none⟩)) {u : TypeId} {cs : List Value} {f : Res → List Res}
    (p : Pick l (bx g u cs) f) (hn : RowT P t cs.length) (ws : List Value) (hy : a.eval y = .agg ws.toArray) (hl : ws.length = cs.length) (h1 : ws.all (·.oneCell') = true)
    (h : ∀ w', Fr (· ≠ g) w w' → Mem S w0 (f (bx g u ws)) w' → K (a.put o.dst undef) w') : o.wp P a w K Q := by
  have hsz : (sizeOf t).run P w = .ok ws.length w := by rw [hl]; exact (hn w).2
  unfold Oper.wp execOp
  simp only [ho, hx, hy, Instr.storeAt, Instr.sureAddr, Sem.run_bind, Sem.run_pure, Result.andThen_ok, run_store_setCells (M.box p) (i := 0) (v := .agg ws.toArray) (ws := ws) (by simp; omega) rfl hsz h1]
  obtain ⟨h2, h3⟩ := box_setCells (g := g) (u := u) ws [] cs w (by have := M.box p; rw [List.nil_append, List.take_append_drop]; exact this) (by omega)
  refine h _ h3 (M.put p (Fr.mono h3 (fun _ _ h e => h e)) _ ?_ (fun _ h => .inl h))
  have e : cs.drop ws.length = [] := by rw [hl]; simp
  rw [e] at h2
  show Box _ g u ws.toArray
  simpa using h2
end
end Go.Proofs.YtjkfoninjpefmaaGreatDoor
