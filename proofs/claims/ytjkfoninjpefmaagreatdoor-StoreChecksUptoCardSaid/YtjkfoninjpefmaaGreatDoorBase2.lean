/- Base, more: copying a whole slice into one that was just made. No program in sight. -/
import Derived.Test.YtjkfoninjpefmaaGreatDoorBase
import Derived.Laws.CopyOwn
import Derived.Maps.AppendAt
namespace Go.Proofs.YtjkfoninjpefmaaGreatDoor
set_option linter.unusedSimpArgs false
set_option linter.unusedVariables false
open Go.RowKit

theorem run_firstCells_row {P : Program} {w : World} {lo hi sz n : Nat} {A : Option Addr} {xs : List Value} (h : Row w lo hi sz A n xs) (c : Nat) :
    (Builtin.firstCells sz n (.slice A n c)).run P w = .ok xs.toArray w := by
  rcases Nat.eq_zero_or_pos n with h0 | h0
  · subst h0
    have hx : xs = [] := List.eq_nil_of_length_eq_zero (by simpa using h.len)
    subst hx
    cases A with
    | none => simp [Builtin.firstCells]
    | some a =>
      have := run_loadCells_list (P := P) w a [] (by simp)
      simpa [Builtin.firstCells] using this
  · obtain ⟨b, off, rfl, _, _, hc⟩ := h.mem h0
    have := run_loadCells_list (P := P) w ⟨b, off, none⟩ xs (fun j v hv => by
      rw [show ((⟨b, off, none⟩ : Addr).add j) = ⟨b, off + j, none⟩ by unfold Addr.add; split <;> simp_all]
      exact hc j v hv)
    rw [h.len] at this
    simpa [Builtin.firstCells] using this

theorem wpList_copy_all {P : Program} {ops : Array Oper} {rest : List Oper} {o : Oper} {a : Act} {Q : Exit → Act → World → Prop} {w : World} {t e : TypeId} {sz bytes : Nat} (E : ElemOf P t e sz bytes) (hgd : o.guard = none) (d s : Operand)
    (ho : o.op = .call { callee := .builtin .copy, args := #[d, s], argTypes := #[t, t] })
    (g n cap c : Nat) (A : Option Addr) (hd : a.eval d = .slice (some ⟨g, 0, none⟩) n cap) (hs : a.eval s = .slice A n c)
    {cur : Array Value} (hg : w.heap[g]? = some (.cells cur e (0, 0))) (hcur : cur.size = n * sz) {lo hi : Nat} {xs : List Value} (hr : Row w lo hi sz A n xs) (h1 : ∀ u ∈ xs, u.oneCell' = true)
    (h : ∀ w', w'.heap[g]? = some (.cells xs.toArray e (0, 0)) → w.grownBy w' (some g) → wpList P ops Q rest (a.put o.dst (goInt n)) w') : wpList P ops Q (o :: rest) a w := by
  obtain ⟨i, z, hi', hz, hsz, hby, hzs⟩ := E.info
  refine wpList_plain hgd fun K hK => ?_
  have hf := run_firstCells_row (P := P) hr c
  have hst := run_storeCells_at P g 0 e xs 0 cur w hg (by simp [hr.len, hcur]) h1
  have hrun : (Builtin.copy_ #[t, t] o.type #[.slice (some ⟨g, 0, none⟩) n cap, .slice A n c]).run P w = .ok (goInt n) (w.setRow g xs.toArray) := by
    have e0 : (cur.toList.take (0 + 0) ++ xs ++ cur.toList.drop (0 + 0 + xs.length)).toArray = xs.toArray := by
      have : cur.toList.drop xs.length = [] := List.drop_of_length_le (by simp [hr.len, hcur])
      simp [this]
    rw [e0] at hst
    simp [Builtin.copy_, run_underlying E.under, Builtin.lenOf, sizeOf, typeInfo, hi', hsz, hf, hst]
  unfold Oper.wp
  simp [execOp, ho, resolve, invoke, builtin, hd, hs, hrun, Result.andThen]
  refine hK _ _ (h _ (setRow_heap w g cur _ e _ hg) ⟨rfl, rfl, rfl, by simp, fun k _ hk => setRow_other w g k _ (fun e => hk (by rw [e]))⟩)

theorem Own.of_block {α : Type} {w : World} {base g : Nat} {e : TypeId} {f : α → List Value} {sz : Nat} {l : List α} (hg : w.heap[g]? = some (.cells (l.flatMap f).toArray e (0, 0))) (hb : base ≤ g) (hf : ∀ x, (f x).length = sz) (hl : l.length ≤ maxLen) :
    Own w base e f sz (some ⟨g, 0, none⟩) l.length l := by
  have hlen := length_flatMap' hf l
  refine ⟨hlen, .inr ⟨g, l.length, _, rfl, hb, hg, Nat.le_refl _, hl, by simp [hlen], ?_⟩⟩
  rw [← hlen]
  exact List.take_length

/-- what a made row is -/
theorem made_block {w : World} {base g n : Nat} {e : TypeId} {sz : Nat} {xs : List Value} (h : w.ownsRow base e sz (.slice (some ⟨g, 0, none⟩) n n) n xs) : base ≤ g ∧ ∃ cur, w.heap[g]? = some (.cells cur e (0, 0)) ∧ cur.size = n * sz := by
  rcases h.2 with ⟨hv, _⟩ | ⟨g', cap, cur, hv, hb, hg, _, _, hc, _⟩
  · cases hv
  · cases hv
    exact ⟨hb, cur, hg, hc⟩
theorem ext_of_grown {w w' : World} (h : w.grownBy w' none) : Ext w w' := ⟨h.os, h.tape, h.output, h.size, fun k hk => h.block k hk (by simp)⟩

/-- `make([]T, n)`: a block of the call's own -/
theorem wpList_make_all {P : Program} {ops : Array Oper} {rest : List Oper} {o : Oper} {a : Act} {Q : Exit → Act → World → Prop} {w : World} {t e : TypeId} {sz bytes : Nat} (E : ElemOf P t e sz bytes) (hgd : o.guard = none) (l c : Operand)
    (hop : o.op = Op.makeSlice t l c) (n : Nat) (N N' : Int) (hl : a.eval l = .int .i64 N) (hc : a.eval c = .int .i64 N') (hN : N = (n : Int)) (hN' : N' = (n : Int)) (hsmall : bytes * n ≤ 281474976710656) (hn : n ≤ 281474976710656)
    (h : ∀ w' cur, w'.heap[w.heap.size]? = some (.cells cur e (0, 0)) → cur.size = n * sz → Ext w w' → wpList P ops Q rest (a.put o.dst (.slice (some ⟨w.heap.size, 0, none⟩) n n)) w') : wpList P ops Q (o :: rest) a w := by
  obtain ⟨i, z, hi', hz, hsz, hby, hzs⟩ := E.info
  refine wpList_make_full w hgd l c t hop w.heap.size e i z sz E.under hi' hz hsz .i64 .i64 N N' n hl hc hN hN' (by rw [hby]; exact hsmall) (by unfold maxLen; omega) (Nat.le_refl _) ?_
  intro w' hown hg
  obtain ⟨_, cur, hcur, hcs⟩ := made_block hown
  exact h w' cur hcur hcs (ext_of_grown hg)
/-- `v = append(v, x)`, and where the row lies then -/
theorem wpList_push_at {P : Program} {ops : Array Oper} {rest : List Oper} {o : Oper} {a : Act} {Q : Exit → Act → World → Prop} {w : World} {t e : TypeId} {sz bytes : Nat} (E : ElemOf P t e sz bytes) (hgd : o.guard = none) (s x : Operand)
    (ho : o.op = .call { callee := .builtin .append, args := #[s, x], argTypes := #[t, t] })
    {α : Type} {f : α → List Value} {base : Nat} {A : Option Addr} {c n : Nat} {l : List α} (y : α) (hn : n = l.length) (hown : Own w base e f sz A c l) (hs : a.eval s = .slice A n c)
    (hx : a.eval x = .slice (some ⟨w.heap.size, 0, none⟩) 1 1) {cs : List Value} (hcs : cs = f y) (hl : (f y).length = sz) (h1 : ∀ u ∈ f y, u.oneCell' = true)
    (hsmall : (l.length + 1) * bytes ≤ 140737488355328) (hlen : l.length + 1 ≤ 140737488355328) (hbase : base ≤ w.heap.size)
    (h : ∀ A' c' w', Own w' base e f sz A' c' (l ++ [y]) → (w.alloc (.cells cs.toArray e)).grownBy w' (ownBlk A) → (∀ g, ownBlk A' = some g → ownBlk A = some g ∨ w.heap.size ≤ g) → wpList P ops Q rest (a.put o.dst (.slice A' (l.length + 1) c')) w') :
    wpList P ops Q (o :: rest) a (w.alloc (.cells cs.toArray e)) := by
  subst hn
  subst hcs
  obtain ⟨i, z, hi, hz, hsz, hby, hzs⟩ := E.info
  refine wpList_append_own_at _ hgd s x t ho base e i z sz bytes E.under hi hz hsz hby hzs E.pos (.slice A l.length c) l.length (l.flatMap f) hs (World.ownsRow.alloc hown _)
    ⟨w.heap.size, 0, none⟩ 1 1 (f y) hx (by rw [hl, Nat.one_mul]) (cells_new w (f y) e) h1 (by unfold maxLen; omega) hsmall (by simp; omega) ?_
  intro v' w' hown' hg _ hat
  obtain ⟨A', c', rfl⟩ := own_form hown'
  have hb : ∀ A : Option Addr, ∀ n c, Value.ownBlock (.slice A n c) = ownBlk A := fun A n c => by cases A <;> rfl
  refine h A' c' w' ?_ ?_ ?_
  · unfold Own
    rw [flatMap_snoc, show (l ++ [y]).length = l.length + 1 by simp]
    exact hown'
  · rw [← hb A l.length c]; exact hg
  · intro g e
    rw [hb, hb] at hat
    rcases hat with h1 | h1
    · exact .inl (by rw [← h1]; exact e)
    · rw [h1] at e
      cases e
      exact .inr (by simp)
end Go.Proofs.YtjkfoninjpefmaaGreatDoor
