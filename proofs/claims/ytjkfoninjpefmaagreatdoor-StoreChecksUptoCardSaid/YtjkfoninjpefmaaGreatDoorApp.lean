/- Appends and copies of lists within and between rows. No program in sight. -/
import Derived.Test.YtjkfoninjpefmaaGreatDoorBase2
import Derived.Test.YtjkfoninjpefmaaGreatDoorFr
import Derived.Lib.AppendZeros
import Derived.Laws.AppendOwnNone
namespace Go.Proofs.YtjkfoninjpefmaaGreatDoor
set_option linter.unusedSimpArgs false
set_option linter.unusedVariables false
open Go.RowKit

theorem part_take {α β : Type} {f : α → List β} (l : List α) (k j : Nat) {u : β} (h : ((l.take k).flatMap f)[j]? = some u) : (l.flatMap f)[j]? = some u := by
  rw [← List.take_append_drop k l, List.flatMap_append, List.getElem?_append_left (List.getElem?_eq_some_iff.1 h).1]
  exact h
theorem part_drop {α β : Type} {f : α → List β} {sz : Nat} (hf : ∀ x, (f x).length = sz) (l : List α) {k : Nat} (hk : k ≤ l.length) (j : Nat) {u : β} (h : ((l.drop k).flatMap f)[j]? = some u) : (l.flatMap f)[k * sz + j]? = some u := by
  have hl : ((l.take k).flatMap f).length = k * sz := by rw [length_flatMap' hf, List.length_take, Nat.min_eq_left hk]
  rw [← List.take_append_drop k l, List.flatMap_append, List.getElem?_append_right (by omega), hl, Nat.add_sub_cancel_left]
  exact h
/-- `append(s, x...)`: x's elements lie at an address -/
theorem wpList_append_list {P : Program} {ops : Array Oper} {rest : List Oper} {o : Oper} {a : Act} {Q : Exit → Act → World → Prop} {w : World} {t e : TypeId} {sz bytes : Nat} (E : ElemOf P t e sz bytes) (hgd : o.guard = none) (s x : Operand)
    (ho : o.op = .call { callee := .builtin .append, args := #[s, x], argTypes := #[t, t] })
    {α : Type} {f : α → List Value} {base : Nat} {A : Option Addr} {c n : Nat} {l : List α} (news : List α) (hn : n = l.length) (hown : Own w base e f sz A c l) (hs : a.eval s = .slice A n c)
    {b off m cx : Nat} (hx : a.eval x = .slice (some ⟨b, off, none⟩) m cx) (hm : m = news.length) (hf : ∀ x, (f x).length = sz) (h1 : ∀ x, ∀ u ∈ f x, u.oneCell' = true)
    (hcell : ∀ j u, (news.flatMap f)[j]? = some u → w.cell? ⟨b, off + j, none⟩ = some u)
    (hsmall : (l.length + news.length) * bytes ≤ 140737488355328) (hlen : l.length + news.length ≤ 140737488355328) (hbase : base ≤ w.heap.size)
    (h : ∀ A' c' w', Own w' base e f sz A' c' (l ++ news) → w.grownBy w' (ownBlk A) → (∀ g, ownBlk A' = some g → ownBlk A = some g ∨ w.heap.size ≤ g) → wpList P ops Q rest (a.put o.dst (.slice A' (l.length + news.length) c')) w') :
    wpList P ops Q (o :: rest) a w := by
  subst hn
  subst hm
  obtain ⟨i, z, hi, hz, hsz, hby, hzs⟩ := E.info
  refine wpList_append_own_at _ hgd s x t ho base e i z sz bytes E.under hi hz hsz hby hzs E.pos (.slice A l.length c) l.length (l.flatMap f) hs hown
    ⟨b, off, none⟩ news.length cx (news.flatMap f) hx (length_flatMap' hf news) (fun j u hj => by rw [show ((⟨b, off, none⟩ : Addr).add j) = ⟨b, off + j, none⟩ by unfold Addr.add; split <;> simp_all]; exact hcell j u hj)
    (fun u hu => by obtain ⟨x, _, hx⟩ := List.mem_flatMap.1 hu; exact h1 x u hx) (by unfold maxLen; omega) hsmall hbase ?_
  intro v' w' hown' hg _ hat
  obtain ⟨A', c', rfl⟩ := own_form hown'
  have hb : ∀ A : Option Addr, ∀ n c, Value.ownBlock (.slice A n c) = ownBlk A := fun A n c => by cases A <;> rfl
  refine h A' c' w' ?_ ?_ ?_
  · unfold Own
    rw [List.flatMap_append, List.length_append]
    exact hown'
  · rw [← hb A l.length c]; exact hg
  · intro g e
    rw [hb, hb] at hat
    rcases hat with h1 | h1
    · exact .inl (by rw [← h1]; exact e)
    · rw [h1] at e
      cases e
      exact .inr (Nat.le_refl _)
theorem Own.lower {α : Type} {w : World} {base base' : Nat} {e : TypeId} {f : α → List Value} {sz : Nat} {A : Option Addr} {c : Nat} {l : List α} (h : Own w base e f sz A c l) (hb : base' ≤ base) : Own w base' e f sz A c l :=
  ⟨h.1, h.2.imp id fun ⟨g, cap, cur, h1, h2, h3⟩ => ⟨g, cap, cur, h1, Nat.le_trans hb h2, h3⟩⟩

theorem add_plain (b off j : Nat) : ((⟨b, off, none⟩ : Addr).add j) = ⟨b, off + j, none⟩ := by unfold Addr.add; split <;> simp_all
/-- `copy(d, s)` within a block of the call's own, at a step -/
theorem wp_copy_at {P : Program} {o : Oper} {a : Act} {K : Act → World → Prop} {Q : Exit → Act → World → Prop} {w : World} {t e : TypeId} {sz bytes : Nat} (E : ElemOf P t e sz bytes) (d s : Operand)
    (ho : o.op = .call { callee := .builtin .copy, args := #[d, s], argTypes := #[t, t] }) {g off dn dc : Nat} (hd : a.eval d = .slice (some ⟨g, off, none⟩) dn dc) {b soff sn sc : Nat} (hs : a.eval s = .slice (some ⟨b, soff, none⟩) sn sc)
    {xs : List Value} {n : Nat} (hn : Nat.min sn dn = n) (hx : xs.length = n * sz) (hsrc : ∀ j u, xs[j]? = some u → w.cell? ⟨b, soff + j, none⟩ = some u)
    {cur : Array Value} (hg : w.heap[g]? = some (.cells cur e (0, 0))) (hfit : off + xs.length ≤ cur.size) (h1 : ∀ u ∈ xs, u.oneCell' = true)
    (h : ∀ w', w'.heap[g]? = some (.cells (cur.toList.take off ++ xs ++ cur.toList.drop (off + xs.length)).toArray e (0, 0)) → w.grownBy w' (some g) → K (a.put o.dst (goInt n)) w') : o.wp P a w K Q := by
  obtain ⟨i, z, hi', hz, hsz, hby, hzs⟩ := E.info
  have hl := run_loadCells_list (P := P) w ⟨b, soff, none⟩ xs (fun j u hj => by rw [add_plain]; exact hsrc j u hj)
  have hst := run_storeCells_at P g off e xs 0 cur w hg (by simpa using hfit) h1
  simp only [Nat.add_zero] at hst
  have hrun : (Builtin.copy_ #[t, t] o.type #[.slice (some ⟨g, off, none⟩) dn dc, .slice (some ⟨b, soff, none⟩) sn sc]).run P w = .ok (goInt n) (w.setRow g (cur.toList.take off ++ xs ++ cur.toList.drop (off + xs.length)).toArray) := by
    simp [Builtin.copy_, run_underlying E.under, Builtin.lenOf, sizeOf, typeInfo, hi', hsz, Builtin.firstCells, hn, ← hx, hl, hst]
  unfold Oper.wp
  simp only [List.append_assoc] at h ⊢
  simp [execOp, ho, resolve, invoke, builtin, hd, hs, hrun, Result.andThen]
  exact h _ (setRow_heap w g cur _ e _ hg) ⟨rfl, rfl, rfl, by simp, fun k _ hk => setRow_other w g k _ (fun e => hk (by rw [e]))⟩
theorem wpList_copy_at {P : Program} {ops : Array Oper} {rest : List Oper} {o : Oper} {a : Act} {Q : Exit → Act → World → Prop} {w : World} {t e : TypeId} {sz bytes : Nat} (E : ElemOf P t e sz bytes) (hgd : o.guard = none) (d s : Operand)
    (ho : o.op = .call { callee := .builtin .copy, args := #[d, s], argTypes := #[t, t] }) {g off dn dc : Nat} (hd : a.eval d = .slice (some ⟨g, off, none⟩) dn dc) {b soff sn sc : Nat} (hs : a.eval s = .slice (some ⟨b, soff, none⟩) sn sc)
    {xs : List Value} {n : Nat} (hn : Nat.min sn dn = n) (hx : xs.length = n * sz) (hsrc : ∀ j u, xs[j]? = some u → w.cell? ⟨b, soff + j, none⟩ = some u)
    {cur : Array Value} (hg : w.heap[g]? = some (.cells cur e (0, 0))) (hfit : off + xs.length ≤ cur.size) (h1 : ∀ u ∈ xs, u.oneCell' = true)
    (h : ∀ w', w'.heap[g]? = some (.cells (cur.toList.take off ++ xs ++ cur.toList.drop (off + xs.length)).toArray e (0, 0)) → w.grownBy w' (some g) → wpList P ops Q rest (a.put o.dst (goInt n)) w') : wpList P ops Q (o :: rest) a w :=
  wpList_plain hgd fun _ hK => wp_copy_at E d s ho hd hs hn hx hsrc hg hfit h1 fun w' h1 h2 => hK _ _ (h w' h1 h2)

/-- `append(s, make([]T, n)...)` that finds no room: a new row -/
theorem wpList_append_zeros {P : Program} {ops : Array Oper} {rest : List Oper} {o : Oper} {a : Act} {Q : Exit → Act → World → Prop} {w : World} {t tn e : TypeId} {sz bytes : Nat} (E : ElemOf P t e sz bytes) (htn : P.underlying tn = some (.int .i64)) (hgd : o.guard = none) (s x : Operand)
    (ho : o.op = .call { callee := .builtin .append, args := #[s, x], argTypes := #[t, tn] }) {b off l c n : Nat} (hs : a.eval s = .slice (some ⟨b, off, none⟩) l c) (hx : a.eval x = .int .i64 n) (h0 : 0 < n)
    {xs : List Value} (hxl : xs.length = l * sz) (hsrc : ∀ j u, xs[j]? = some u → w.cell? ⟨b, off + j, none⟩ = some u) (hroom : c < l + n) (hbytes : (l + n) * bytes ≤ 140737488355328) (hlen : l + n ≤ 140737488355328)
    (h : ∀ c' cur w', w'.heap[w.heap.size]? = some (.cells cur e (0, 0)) → l + n ≤ c' → c' ≤ maxLen → cur.size = c' * sz → cur.toList.take (l * sz) = xs → Ext w w' → w.heap.size < w'.heap.size → wpList P ops Q rest (a.put o.dst (.slice (some ⟨w.heap.size, 0, none⟩) (l + n) c')) w') : wpList P ops Q (o :: rest) a w := by
  obtain ⟨i, z, hi, hz, hsz, hby, hzs⟩ := E.info
  have hn : n ≠ 0 := by omega
  have hw : IntKind.i64.wrap (n : Int) = n := by rw [IntKind.wrap_i64]; omega
  have hneg : ¬ ((n : Int) < 0) := by omega
  have hns : ¬ (n * i.size = 0) := Nat.mul_ne_zero hn (by have := E.pos; omega)
  have h48 : Builtin.nextslicecap (l + n) c * i.bytes ≤ 281474976710656 := by rw [hby]; exact growslice_fits hroom hbytes
  have h48' : ¬ (281474976710656 < Builtin.nextslicecap (l + n) c * i.bytes) := by omega
  have h63' : ¬ (9223372036854775807 < ((l : Int) + (n : Int))) := by omega
  have hnb : n * i.bytes ≤ 140737488355328 := by
    rw [hby]
    exact Nat.le_trans (Nat.mul_le_mul_right _ (Nat.le_add_left _ _)) hbytes
  have h48i : ¬ (281474976710656 < (n : Int) * (i.bytes : Int)) := by
    rw [← Int.natCast_mul]
    omega
  have hnr : ¬ (l + n ≤ c) := by omega
  have hl := run_loadCells_list (P := P) w.drew ⟨b, off, none⟩ xs (fun j u hj => by rw [add_plain]; exact hsrc j u hj)
  have hrun : (Builtin.append_ #[t, tn] o.type #[.slice (some ⟨b, off, none⟩) l c, .int .i64 n]).run P w =
      .ok (.slice (some ⟨w.heap.size, 0, none⟩) (l + n) (grownCap w (l + n) c e)) (w.drew.alloc (.cells (xs.toArray ++ Builtin.zeroCells z.cells n ++ Builtin.zeroCells z.cells (grownCap w (l + n) c e - (l + n))) e)) := by
    simp [Builtin.append_, run_underlying E.under, run_underlying htn, sizeOf, typeInfo, zeroValue, hi, hz, asInt, asIntOf, hw, hn, hneg, hns, h63', h48', h48i, Question.forced, hnr, Builtin.firstCells, hsz, ← hxl, hl, newRow, grownCap]
    intro h0'
    exact absurd (by rw [hsz]; exact h0') hns
  have hge := grownCap_ge w (l + n) c e
  refine Lib.wpList_append_run _ hgd s x t tn ho _ _ hs hx _ _ hrun ?_
  refine h _ _ _ (heap_alloc_new w.drew _) hge (grownCap_le_maxLen w (l + n) c e (by unfold maxLen; omega)) ?_ ?_ ⟨rfl, rfl, rfl, by simp, fun k hk => heap_alloc_old w.drew _ hk⟩ (by simp)
  · simp only [Array.size_append, List.size_toArray, size_zeroCells, hzs, hxl, ← Nat.add_mul]
    congr 1
    omega
  · simp only [Array.toList_append, List.append_assoc]
    rw [← hxl]
    exact List.take_left
end Go.Proofs.YtjkfoninjpefmaaGreatDoor
