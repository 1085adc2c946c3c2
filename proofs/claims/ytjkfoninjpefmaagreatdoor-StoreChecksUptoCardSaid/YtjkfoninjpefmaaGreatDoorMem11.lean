/- Appends in a region whose order is left open. No program in sight. -/
import Derived.Test.YtjkfoninjpefmaaGreatDoorMem10
namespace Go.Proofs.YtjkfoninjpefmaaGreatDoor
set_option linter.unusedSimpArgs false
set_option linter.unusedVariables false
open Go.RowKit Res

section
variable {P : Program} {S : Nat → Prop} {w0 w : World} {l : List Res} {o : Oper} {a : Act} {K : Act → World → Prop} {Q : Exit → Act → World → Prop}
theorem wp_appendsF (M : Mem S w0 l w) {t e : TypeId} {sz bytes : Nat} (E : ElemOf P t e sz bytes) (s x : Operand) (ho : o.op = .call { callee := .builtin .append, args := #[s, x], argTypes := #[t, t] })
    {α : Type} {f : α → List Value} {A : Option Addr} {c n : Nat} {xs : List α} {F : Res → List Res} (hs : a.eval s = .slice A n c) (p : Pick l (ow e f sz A c xs) F) (hn : n = xs.length) (ys : List α)
    {B : Option Addr} {m cx lo hi : Nat} (hx : a.eval x = .slice B m cx) (hm : m = ys.length) (hrow : Row w lo hi sz B m (ys.flatMap f)) {ad : Addr} (hB : B = some ad) (hf : ∀ x, (f x).length = sz) (h1 : ∀ x, ∀ u ∈ f x, u.oneCell' = true)
    (hsmall : (xs.length + ys.length) * bytes ≤ 140737488355328) (hlen : xs.length + ys.length ≤ 140737488355328)
    (h : ∀ A' c' w', Fr (fun b => ¬ ownBlk A = some b) w w' → Mem S w0 (F (ow e f sz A' c' (xs ++ ys))) w' → K (a.put o.dst (.slice A' (xs.length + ys.length) c')) w') : o.wp P a w K Q := by
  subst hB hn hm
  obtain ⟨i, z, hi, hz, hsz, hby, hzs⟩ := E.info
  have hown := M.own p
  obtain ⟨v', w', hr, h2, h3, h4, h5⟩ := run_append_own_at (P := P) (w := w) (ty := o.type) 0 t e i z sz bytes E.under hi hz hsz hby hzs E.pos (.slice A xs.length c) xs.length (xs.flatMap f) hown ad ys.length cx (ys.flatMap f)
    (length_flatMap' hf ys) (fun j u hj => by
      have hy : 0 < ys.length := by
        cases ys with
        | nil => simp at hj
        | cons y ys => simp
      obtain ⟨b, off, e, _, _, hc⟩ := hrow.mem hy
      injection e with e
      subst e
      rw [add_plain]
      exact hc j u hj) (fun u hu => by obtain ⟨x, _, hx⟩ := List.mem_flatMap.1 hu; exact h1 x u hx) (by unfold maxLen; omega) hsmall (Nat.zero_le _)
  unfold Oper.wp execOp
  simp only [ho, resolve, invoke, builtin, Sem.run_bind, Sem.run_pure, Result.andThen_ok, List.map_toArray, List.map_cons, List.map_nil, hs, hx, hr]
  obtain ⟨A', c', rfl⟩ := own_form h2
  rw [ownBlock_slice] at h3 h5
  rw [ownBlock_slice] at h5
  refine h A' c' w' (Fr.of_grown h3 fun g e _ hg => hg e) (M.put p (Fr.of_grown h3 fun g e _ hg => hg e) _ ?_ fun b hb => ?_)
  · show Own w' 0 e f sz A' c' (xs ++ ys)
    unfold Own
    rw [List.flatMap_append, List.length_append]
    exact h2
  · rcases h5 with h5 | h5
    · exact .inl (by show ownBlk A = some b; rw [← h5]; exact hb)
    · refine .inr ?_
      have hb' : ownBlk A' = some b := hb
      rw [h5] at hb'
      injection hb' with hb'
      omega
theorem wp_append1F (M : Mem S w0 l w) {t e : TypeId} {sz bytes : Nat} (E : ElemOf P t e sz bytes) (s x : Operand) (ho : o.op = .call { callee := .builtin .append, args := #[s, x], argTypes := #[t, t] })
    {α : Type} {f : α → List Value} {A : Option Addr} {c n : Nat} {xs : List α} {F F2 : Res → List Res} (hs : a.eval s = .slice A n c) (g : Nat) (hx : a.eval x = .slice (some ⟨g, 0, none⟩) 1 1) (p : Pick l (ow e f sz A c xs) F) (hn : n = xs.length) (y : α)
    {u : TypeId} {cs : List Value} (p2 : Pick l (bx g u cs) F2) (hcs : cs = f y) (hf : ∀ x, (f x).length = sz) (h1 : ∀ x, ∀ u ∈ f x, u.oneCell' = true)
    (hsmall : (xs.length + 1) * bytes ≤ 140737488355328) (hlen : xs.length + 1 ≤ 140737488355328)
    (h : ∀ A' c' w', Fr (fun b => ¬ ownBlk A = some b) w w' → Mem S w0 (F (ow e f sz A' c' (xs ++ [y]))) w' → K (a.put o.dst (.slice A' (xs.length + 1) c')) w') : o.wp P a w K Q := by
  have hb := M.box p2
  subst hcs
  exact wp_appendsF M E s x ho hs p hn [y] hx rfl (lo := 0) (hi := w.heap.size) ⟨by simp [hf], fun _ => ⟨g, 0, rfl, Nat.zero_le _, hb.lt, fun j u hj => by rw [Nat.zero_add, hb.cell]; simpa using hj⟩⟩ rfl hf h1 hsmall hlen h
theorem keepX.frNone {ss : List Nat} {w' : World} (M : Mem (· < w0.heap.size) w0 l w) (h : Fr (fun b => ¬ ownBlk none = some b) w w') : keepX w0.heap.size a ss w w' :=
  ⟨⟨h.size, fun s _ g' i _ o v hv => (World.cell?_of_block (w := w) (a := ⟨g', o, none⟩) (h.block g' (block_lt_of_cell hv) (fun e => by cases e))).trans hv⟩, fun b hb => h.block b (Nat.lt_of_lt_of_le hb M.fr.size) (fun e => by cases e)⟩
end
end Go.Proofs.YtjkfoninjpefmaaGreatDoor
