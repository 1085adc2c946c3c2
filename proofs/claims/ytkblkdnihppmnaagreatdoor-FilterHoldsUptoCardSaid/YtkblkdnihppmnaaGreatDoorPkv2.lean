/- Parts of this work, one behind the other: Mem17, FiltZd, Mem18. -/
import Derived.Laws.OwnMore
import Derived.WalkSmall
import Derived.Lib.ItoaLen
import Derived.Test.YtkblkdnihppmnaaGreatDoorPkv0
import Derived.Test.YtkblkdnihppmnaaGreatDoorPkv1
/- Rows of the call's own: an element is written, the last one is dropped. No program in sight. -/
namespace Go.Proofs.YtkblkdnihppmnaaGreatDoor
set_option linter.unusedSimpArgs false
set_option linter.unusedVariables false
open Go.RowKit Res

section
variable {P : Program} {S : Nat → Prop} {w0 w : World} {l : List Res} {α : Type} {e : TypeId} {f : α → List Value} {sz : Nat} {A : Option Addr} {c : Nat} {xs : List α} {F : Res → List Res}
theorem Own.some_of {base : Nat} (h : Own w base e f sz A c xs) (hx : xs ≠ []) : ∃ g, A = some ⟨g, 0, none⟩ := by
  rcases h.2 with ⟨h', _⟩ | ⟨g', cap', cur, h', _⟩
  · simp only [Value.slice.injEq] at h'
    exact absurd (List.eq_nil_of_length_eq_zero h'.2.1) hx
  · simp only [Value.slice.injEq] at h'
    exact ⟨g', h'.1⟩
theorem Mem.some_of (M : Mem S w0 l w) (p : Pick l (ow e f sz A c xs) F) (hx : xs ≠ []) : ∃ g, A = some ⟨g, 0, none⟩ := Own.some_of (M.own p) hx
/-- the last one is dropped -/
theorem Mem.pop {y : α} (hf : ∀ x, (f x).length = sz) (M : Mem S w0 l w) (p : Pick l (ow e f sz A c (xs ++ [y])) F) : Mem S w0 (F (ow e f sz A c xs)) w := by
  obtain ⟨g, rfl⟩ := M.some_of p (by simp)
  refine M.put p (Fr.refl w) _ ?_ (fun b hb => .inl hb)
  have h : World.ownsRow _ _ _ _ _ _ _ := M.own p
  rw [List.flatMap_append, List.length_append] at h
  exact ownsRow_pop (last := [y].flatMap f) (length_flatMap' hf xs) h
theorem Mem.cellO {g k j : Nat} {x : α} {u : Value} (hf : ∀ x, (f x).length = sz) (M : Mem S w0 l w) (p : Pick l (ow e f sz (some ⟨g, 0, none⟩) c xs) F) (hk : xs[k]? = some x) (hj : (f x)[j]? = some u) : w.cell? ⟨g, k * sz + j, none⟩ = some u := by
  have hjs : j < sz := by rw [← hf x]; exact (List.getElem?_eq_some_iff.1 hj).1
  have hks : k < xs.length := (List.getElem?_eq_some_iff.1 hk).1
  have h := World.ownsRow.cellAt (M.own p) (k * sz + j) (by
    have : k * sz + sz ≤ xs.length * sz := by
      rw [← Nat.succ_mul]
      exact Nat.mul_le_mul_right _ hks
    omega)
  rw [h, getElem?_flatMap hf xs k j hjs, hk]
  exact hj
theorem Mem.cap {A : Option Addr} (M : Mem S w0 l w) (p : Pick l (ow e f sz A c xs) F) : xs.length ≤ c := by
  have h : World.ownsRow _ _ _ _ _ _ _ := M.own p
  rcases h.2 with ⟨h', _⟩ | ⟨g', cap', cur, h', _, _, hn, _⟩
  · simp only [Value.slice.injEq] at h'
    omega
  · simp only [Value.slice.injEq] at h'
    omega
def setL : List Value → Nat → List Value → List Value
  | cs, _, [] => cs
  | cs, i, v :: ws => setL (cs.set i v) (i + 1) ws
theorem setL_mid : ∀ (ws B A C : List Value), B.length = ws.length → setL (A ++ (B ++ C)) A.length ws = A ++ (ws ++ C)
  | [], B, A, C, h => by
    obtain rfl := List.eq_nil_of_length_eq_zero h
    rfl
  | v :: ws, [], A, C, h => by simp at h
  | v :: ws, b :: B, A, C, h => by
    have e1 : (A ++ (b :: B ++ C)).set A.length v = (A ++ [v]) ++ (B ++ C) := by simp
    have e2 : A.length + 1 = (A ++ [v]).length := by simp
    show setL ((A ++ (b :: B ++ C)).set A.length v) (A.length + 1) ws = _
    rw [e1, e2, setL_mid ws B (A ++ [v]) C (by simpa using h)]
    simp
theorem setL_flat (hf : ∀ x, (f x).length = sz) {k : Nat} (hk : k < xs.length) (y : α) : setL (xs.flatMap f) (k * sz) (f y) = (xs.set k y).flatMap f := by
  have e1 : xs = xs.take k ++ (xs[k] :: xs.drop (k + 1)) := by rw [← List.drop_eq_getElem_cons hk, List.take_append_drop]
  have e2 : xs.set k y = xs.take k ++ (y :: xs.drop (k + 1)) := by rw [List.set_eq_take_append_cons_drop, if_pos hk]
  have e3 : ((xs.take k).flatMap f).length = k * sz := by rw [length_flatMap' hf, List.length_take, Nat.min_eq_left (by omega)]
  have e4 : xs.flatMap f = (xs.take k).flatMap f ++ (f xs[k] ++ (xs.drop (k + 1)).flatMap f) := by
    have e5 := congrArg (List.flatMap f) e1
    rw [e5, List.flatMap_append, List.flatMap_cons]
  rw [e2, e4, ← e3, setL_mid _ _ _ _ (by rw [hf, hf])]
  simp
theorem ownsRow_setCells {g n cap base : Nat} : ∀ (ws : List Value) (i : Nat) (cs : List Value) (w : World), w.ownsRow base e sz (.slice (some ⟨g, 0, none⟩) n cap) n cs → (w.setCells g i ws).ownsRow base e sz (.slice (some ⟨g, 0, none⟩) n cap) n (setL cs i ws) ∧ Fr (· ≠ g) w (w.setCells g i ws)
  | [], i, cs, w, h => ⟨h, Fr.refl w⟩
  | v :: ws, i, cs, w, h => by
    obtain ⟨h1, h2⟩ := ownsRow_setCells ws (i + 1) _ _ (World.ownsRow.stored h i v).1
    exact ⟨h1, ((Fr.refl w).set (p := ⟨g, i, none⟩) v (fun _ h => h rfl)).trans h2⟩
theorem wp_storeO {o : Oper} {a : Act} {K : Act → World → Prop} {Q : Exit → Act → World → Prop} (M : Mem S w0 l w) (hf : ∀ x, (f x).length = sz) {g k : Nat} (p : Pick l (ow e f sz (some ⟨g, 0, none⟩) c xs) F) (y : α) (hk : k < xs.length) (t : TypeId) (x z : Operand) (ho : o.op = .store t x z) {i : Nat} (hi : i = k * sz) (hx : a.eval x = .pointer (some ⟨g, i, none⟩)) (hz : (a.eval z).cells = (f y).toArray) (hn : (sizeOf t).run P w = .ok sz w) (h1 : ∀ u ∈ f y, u.oneCell' = true)
    (h : ∀ w', Fr (· ≠ g) w w' → Mem S w0 (F (ow e f sz (some ⟨g, 0, none⟩) c (xs.set k y))) w' → K (a.put o.dst undef) w') : o.wp P a w K Q := by
  subst hi
  have hO : World.ownsRow _ _ _ _ _ _ _ := M.own p
  have hle : k * sz + sz ≤ xs.length * sz := by
    rw [← Nat.succ_mul]
    exact Nat.mul_le_mul_right _ hk
  have hst : (storeVar t ⟨g, k * sz, none⟩ (a.eval z)).run P w = .ok () (w.setCells g (k * sz) (f y)) := by
    have := run_storeCells_cells (P := P) g (k * sz) (f y) 0 w (fun j hj => by
      rw [hf] at hj
      rw [Nat.add_zero, World.ownsRow.cellAt hO (k * sz + j) (by omega), List.getElem?_eq_getElem (by rw [length_flatMap' hf]; omega)]
      rfl) (fun j hj => World.ownsRow.frozenAt hO _) h1
    simp only [Nat.add_zero] at this
    simp [storeVar, Sem.run_bind, hn, hz, hf, this]
  obtain ⟨h2, h3⟩ := ownsRow_setCells (f y) (k * sz) _ w hO
  rw [setL_flat hf hk] at h2
  unfold Oper.wp execOp
  simp only [ho, hx, Instr.storeAt, Instr.sureAddr, Sem.run_bind, Sem.run_pure, Result.andThen_ok, hst]
  refine h _ h3 (M.put p (Fr.mono h3 fun b _ hb e => hb (by rw [e]; rfl)) _ ?_ (fun b hb => .inl hb))
  show World.ownsRow _ _ _ _ _ _ _
  rw [List.length_set]
  exact h2
end
end Go.Proofs.YtkblkdnihppmnaaGreatDoor
/- Filters (layer 21): how long a filter's text is. No program in sight. -/
namespace Go.Proofs.YtkblkdnihppmnaaGreatDoor.Filt
set_option linter.unusedSimpArgs false
set_option linter.unusedVariables false

def Nd.size : Nd → Nat
  | .num _ _ _ => 1
  | .idt _ _ => 1
  | .not n => n.size + 1
  | .all a b => a.size + b.size + 1
  | .any a b => a.size + b.size + 1
def NT.acc : NT → Nat
  | .allMore n | .anyMore n => n.size
  | _ => 0
section
variable {s : List UInt8}
theorem test_size {p q : Nat} {n : Nd} (h : (lang s).test true p = .ok n q) : n.size = 1 := by
  have := (test_valid _ _ _ _ h).2
  cases n with
  | num => rfl
  | idt => rfl
  | not n => have := this.1; simp [dep] at this
  | all => have := this.2; simp [rankOf] at this
  | any => have := this.2; simp [rankOf] at this
theorem reads_size {nt : NT} {d p : Nat} {r : Res} (h : Reads (lang s) true nt d p r) : ∀ {n q}, r = .ok n q → p + n.size ≤ q + nt.acc := by
  induction h with
  | test h1 h2 => intro n q e; have := test_gt e; have := test_size e; simp only [NT.acc]; omega
  | notOk h hd ha hr ih =>
    intro n q e
    cases e
    have := ih rfl
    have b := word_gt h
    have a := adv_next ha
    simp only [NT.acc, Nd.size] at *
    omega
  | openOk h0 h hd ha hr hc hb ih =>
    intro n q e
    cases e
    have := ih rfl
    have b := word_gt h
    have a := adv_next ha
    have a3 := adv_next hb
    have b3 := word_gt hc
    simp only [NT.acc, Nd.size] at *
    omega
  | allOk h hr ih1 ih2 =>
    intro n q e
    have i1 := ih1 rfl
    have i2 := ih2 e
    simp only [NT.acc, Nd.size] at *
    omega
  | allEnd h => intro n q e; cases e; exact Nat.le_refl _
  | allMore h ha hr hm ih1 ih2 =>
    intro n q e
    have i1 := ih1 rfl
    have i2 := ih2 e
    have b := word_gt h
    have a := adv_next ha
    simp only [NT.acc, Nd.size] at *
    omega
  | anyOk h hr ih1 ih2 =>
    intro n q e
    have i1 := ih1 rfl
    have i2 := ih2 e
    simp only [NT.acc, Nd.size] at *
    omega
  | anyEnd h => intro n q e; cases e; exact Nat.le_refl _
  | anyMore h ha hr hm ih1 ih2 =>
    intro n q e
    have i1 := ih1 rfl
    have i2 := ih2 e
    have b := word_gt h
    have a := adv_next ha
    simp only [NT.acc, Nd.size] at *
    omega
  | _ => intro n q e; cases e
theorem reads_le {nt : NT} {d p : Nat} {r : Res} (h : Reads (lang s) true nt d p r) : ∀ {n q}, r = .ok n q → p ≤ s.length → (lex s p).kind ≠ .bad → q ≤ s.length ∧ (lex s q).kind ≠ .bad := by
  intro n q e hp hb
  exact (reads_ctx [] [] h e hp hb).1
end
theorem field_len (f : Nat) : (fieldNames.getD f []).length ≤ 8 := by
  have h : ((List.range 14).all fun f => decide ((fieldNames.getD f []).length ≤ 8)) = true := by decide
  by_cases hf : f < 14
  · simpa using List.all_eq_true.1 h f (List.mem_range.2 hf)
  · rw [List.getD_eq_getElem?_getD, List.getElem?_eq_none (by simp [fieldNames]; omega)]; simp
theorem ask_len (k : Nat) : (askNames.getD k []).length ≤ 2 := by
  have h : ((List.range 6).all fun f => decide ((askNames.getD f []).length ≤ 2)) = true := by decide
  by_cases hf : k < 6
  · simpa using List.all_eq_true.1 h k (List.mem_range.2 hf)
  · rw [List.getD_eq_getElem?_getD, List.getElem?_eq_none (by simp [askNames]; omega)]; simp
theorem status_len (k : Nat) : (statusNames.getD k []).length ≤ 9 := by
  have h : ((List.range 7).all fun f => decide ((statusNames.getD f []).length ≤ 9)) = true := by decide
  by_cases hf : k < 7
  · simpa using List.all_eq_true.1 h k (List.mem_range.2 hf)
  · rw [List.getD_eq_getElem?_getD, List.getElem?_eq_none (by simp [statusNames]; omega)]; simp
theorem itoa_len {n : Int} (h : I64 n) : (Lib.itoa n).length ≤ 21 := Lib.itoa_length_le n h.1 h.2
theorem within_len (r : Nat) (n : Nd) (t : List UInt8) : (within r n t).length ≤ t.length + 2 := by
  unfold within brk
  split <;> simp
theorem ftxt_len : ∀ {n : Nd}, Valid n → (ftxt n).length ≤ 100 * n.size
  | .num f k n, h => by
    have h1 := field_len f
    have h2 := ask_len k
    have h3 := status_len (n.toNat - 1)
    have h4 := itoa_len h.2.2
    show (numT f k n).length ≤ 100
    unfold numT
    split <;> (simp only [List.length_append, List.length_cons]; omega)
  | .idt k s, h => by
    have h2 := ask_len k
    have h3 := h.2.1
    show (idtT k s).length ≤ 100
    unfold idtT
    simp only [List.length_append, List.length_cons, List.length_nil]
    omega
  | .not n, h => by
    have i := ftxt_len (n := n) h
    have l := within_len 2 n (ftxt n)
    show (sNot ++ within 2 n (ftxt n)).length ≤ 100 * (n.size + 1)
    rw [List.length_append]
    have : sNot.length = 4 := rfl
    omega
  | .all a b, h => by
    have i := ftxt_len (n := a) h.1
    have j := ftxt_len (n := b) h.2
    have l := within_len 1 a (ftxt a)
    have m := within_len 1 b (ftxt b)
    show (within 1 a (ftxt a) ++ sAnd ++ within 1 b (ftxt b)).length ≤ 100 * (a.size + b.size + 1)
    rw [List.length_append, List.length_append]
    have : sAnd.length = 5 := rfl
    omega
  | .any a b, h => by
    have i := ftxt_len (n := a) h.1
    have j := ftxt_len (n := b) h.2
    show (ftxt a ++ sOr ++ ftxt b).length ≤ 100 * (a.size + b.size + 1)
    rw [List.length_append, List.length_append]
    have : sOr.length = 4 := rfl
    omega
theorem parse_size {s : List UInt8} {n : Nd} (h : ParseP s (.ok (some n))) : n.size ≤ 512 := by
  cases h with
  | ok h hb he hr hp =>
    have h1 := reads_size hr rfl
    have h2 := (reads_le hr rfl (Nat.zero_le _) hb).1
    simp only [NT.acc] at h1
    omega
end Go.Proofs.YtkblkdnihppmnaaGreatDoor.Filt
/- Regions whose order is left open, in which one row of the call's own is appended to and all else stays; texts that are put together there. No program in sight. -/
namespace Go.Proofs.YtkblkdnihppmnaaGreatDoor
set_option linter.unusedSimpArgs false
set_option linter.unusedVariables false
open Go.RowKit Res

/-- all blocks but the row's stay -/
def keepO (A : Option Addr) (w w' : World) : Prop := w.heap.size ≤ w'.heap.size ∧ ∀ b, b < w.heap.size → ¬ ownBlk A = some b → w'.heap[b]? = w.heap[b]?
namespace keepO
variable {A : Option Addr} {w w' : World}
theorem refl (w : World) : keepO A w w := ⟨Nat.le_refl _, fun _ _ _ => rfl⟩
theorem trans (x y z : World) (h : keepO A x y) (k : keepO A y z) : keepO A x z := ⟨Nat.le_trans h.1 k.1, fun b hb hn => (k.2 b (Nat.lt_of_lt_of_le hb h.1) hn).trans (h.2 b hb hn)⟩
theorem ext (h : Ext w w') : keepO A w w' := ⟨h.size, fun b hb _ => h.block b hb⟩
theorem frO (h : Fr (fun b => ¬ ownBlk A = some b) w w') : keepO A w w' := ⟨h.size, fun b hb hn => h.block b hb hn⟩
theorem cell (h : keepO A w w') {g k : Nat} {v : Value} (hv : w.cell? ⟨g, k, none⟩ = some v) (hn : ¬ ownBlk A = some g) : w'.cell? ⟨g, k, none⟩ = some v :=
  (World.cell?_of_block (w := w) (a := ⟨g, k, none⟩) (h.2 g (block_lt_of_cell hv) hn)).trans hv
end keepO
section
variable {P : Program} {S : Nat → Prop} {w0 w : World} {l : List Res} {Q : Exit → Act → World → Prop} {a a0 : Act} {A : Option Addr} {f : Res → List Res}
theorem Mem.ne_far {α : Type} {e : TypeId} {F : α → List Value} {sz c g : Nat} {xs : List α} (M : Mem (· < w0.heap.size) w0 l w) (p : Pick l (ow e F sz A c xs) f) (hg : g < w0.heap.size) : ¬ ownBlk A = some g := fun h => M.out _ p.mem g h hg
theorem wp_region_keepO (M : Mem S w0 l w) (A : Option Addr) {id : Nat} {L : List Oper} (m : Nat) (sch : List (Nat × Bool)) (hm : P.follows .mixedOrders = true) (hB : regionOk L.toArray m sch = true)
    (hQ : ∀ c a d v w, Q (.panic c) (Act.put a d v) w → Q (.panic c) a w) (h : ∀ w', Mem S w0 l w' → wpSch P L.toArray Q (keepO A) m sch a w') : (Code.region id L.toArray true).wp P Q a w :=
  wp_region_sch (keepO A) m sch hm hB keepO.refl keepO.trans hQ (h w.drew M.drew)
variable {L : List Oper} {i m : Nat} {sch : List (Nat × Bool)} {dst : Option Tmp} {t u ty : TypeId} {x y : Operand} {pos : String} {after : Array Edge} {gd : Option (Nat × Bool)} {R : World → World → Prop} {b : BinOp}
theorem sch_cellO (ho : L[i]? = some (Oper.mk dst (.load t x) ty pos after none)) (g k : Nat) (hx : a.eval x = .pointer (some ⟨g, k, none⟩)) (v : Value) (hv : w.cell? ⟨g, k, none⟩ = some v) (hg : ¬ ownBlk A = some g) (hn : OneT P t)
    (h : wpSch P L.toArray Q (keepO A) m sch (a.put dst v) w) : wpSch P L.toArray Q (keepO A) m ((i, true) :: sch) a w :=
  wpSch_q v ho rfl (fun w' hR => ex_load1 t x rfl ⟨g, k, none⟩ hx hn v (hR.cell hv hg)) h
/-- a text that is put together, or another operation on two values -/
theorem sch_bin {vx vy v : Value} (ho : L[i]? = some (Oper.mk dst (.binOp b t x y u) ty pos after none)) (hx : a.eval x = vx) (hy : a.eval y = vy) (hg : ∀ w, (eqGuard b t x y vx vy).run P w = .ok () w) (hr : ∀ w, (binOp b t vx vy).run P w = .ok v w)
    (h : wpSch P L.toArray Q R m sch (a.put dst v) w) : wpSch P L.toArray Q R m ((i, true) :: sch) a w :=
  wpSch_q v ho rfl (fun w' _ => by
    unfold execOp
    simp only [hx, hy, Sem.run_bind, Sem.run_pure, Result.andThen_ok, hg, hr]) h
variable {ops : Array Oper} {rest : List Oper} {Qs : Act → Prop}
theorem st_on_bin (h : wpStill P ops w Qs (Oper.mk dst (.binOp b t x y u) ty pos after none :: rest) a) : wpStill P ops w Qs (Oper.mk dst (.binOp b t x y u) ty pos after none :: rest) a := h
theorem st_bin {vx vy v : Value} (hx : a.eval x = vx) (hy : a.eval y = vy) (hg : ∀ w, (eqGuard b t x y vx vy).run P w = .ok () w) (hr : ∀ w, (binOp b t vx vy).run P w = .ok v w)
    (h : wpStill P ops w Qs rest (a.put dst v)) : wpStill P ops w Qs (Oper.mk dst (.binOp b t x y u) ty pos after none :: rest) a :=
  st_quiet2 rfl rfl fun K hK => by
    unfold Oper.wp execOp
    simp only [hx, hy, Sem.run_bind, Sem.run_pure, Result.andThen_ok, hg, hr]
    exact hK _ h
end
end Go.Proofs.YtkblkdnihppmnaaGreatDoor
