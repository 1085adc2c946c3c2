/- Edits written and read again (layer 10), a manifest of edits, and one that is cut, as plain functions. No program in sight. -/
import Derived.Test.YteplpgknnlehnaaBack
import Derived.Test.YteplpgknnlehnaaManRep
import Derived.Test.YteplpgknnlehnaaMan5
namespace Go.Proofs.Yteplpgknnlehnaa
set_option linter.unusedSimpArgs false
set_option linter.unusedVariables false
open Go.RowKit

theorem readUint_put {mx n : Nat} (h : n < M64) (hm : n ≤ mx) (rest : List UInt8) : readUint mx (putUint n ++ rest, false) = (n, (rest, false)) := by
  unfold readUint
  dsimp only
  rw [takeUint_put h, if_neg (by simp; omega), List.drop_left]
theorem readText_put {l : List UInt8} {mx : Nat} (h : l.length ≤ mx) (h2 : l.length < M64) (rest : List UInt8) : readText mx (putText l ++ rest, false) = (l, (rest, false)) := by
  unfold readText
  dsimp only
  rw [takeText_put h h2, if_neg (by simp), List.drop_left]
theorem readMany_put {n : Nat} (h : n ≤ 1000) (rest : List UInt8) : readMany (putUint n ++ rest, false) = (n, (rest, false)) := by
  unfold readMany
  rw [readUint_put (by unfold M64; omega) (by omega)]
  dsimp only
  rw [if_neg (by simp; omega)]
theorem may_table {t : Table} (h : t.may = true) : 0 ≤ t.level ∧ t.level < 4 ∧ 1 ≤ t.size ∧ 1 ≤ t.count ∧ t.least.length ≤ 96 ∧ t.great.length ≤ 96 := by
  simp [Table.may, mayKey] at h
  omega
theorem pTable_put {t : Table} (h : t.may = true) (rest : List UInt8) : pTable (tableBytes t ++ rest, false) = (t, (rest, false)) := by
  obtain ⟨b1, b2, b3, b4⟩ := may_table_bounds h
  obtain ⟨c1, c2, c3, c4, c5, c6⟩ := may_table h
  have e1 := fun r => readUint_put (mx := 4611686018427387904) (n := t.num) (by unfold M64; omega) b1 r
  have e2 := fun r => readUint_put (mx := 4611686018427387904) (n := t.level.toNat) (by unfold M64; omega) (by omega) r
  have e3 := fun r => readUint_put (mx := 4611686018427387904) (n := t.size.toNat) (by unfold M64; omega) (by omega) r
  have e4 := fun r => readUint_put (mx := 4611686018427387904) (n := t.count.toNat) (by unfold M64; omega) (by omega) r
  have e5 := fun r => readText_put (mx := 96) (l := t.least) c5 (by unfold M64; omega) r
  have e6 := fun r => readText_put (mx := 96) (l := t.great) c6 (by unfold M64; omega) r
  show tableOf _ _ _ _ _ = _
  unfold tableOf tableBytes
  simp only [List.append_assoc, e1, e2, e3, e4, e5, e6]
  have k1 : (t.level.toNat : Int) = t.level := by omega
  have k2 : (t.size.toNat : Int) = t.size := by omega
  have k3 : (t.count.toNat : Int) = t.count := by omega
  rw [k1, k2, k3]
theorem iter_put {α : Type} {f : Rd → α × Rd} {en : α → List UInt8} : ∀ (l : List α) (rest : List UInt8), (∀ x ∈ l, ∀ r, f (en x ++ r, false) = (x, (r, false))) → iter f l.length (l.flatMap en ++ rest, false) = (l, (rest, false)) := by
  intro l rest hf
  have key : ∀ k, k ≤ l.length → iter f k (l.flatMap en ++ rest, false) = (l.take k, ((l.drop k).flatMap en ++ rest, false)) := by
    intro k
    induction k with
    | zero => intro _; simp [iter]
    | succ k ih =>
      intro hk
      have h1 := ih (by omega)
      have hd : l.drop k = l[k] :: l.drop (k + 1) := List.drop_eq_getElem_cons (by omega)
      unfold iter
      rw [h1, hd, List.flatMap_cons, List.append_assoc, hf _ (List.getElem_mem _), List.take_add_one, List.getElem?_eq_getElem (by omega)]
      rfl
  have := key l.length (Nat.le_refl _)
  rw [List.take_length, List.drop_length] at this
  simpa using this
theorem may_edit {e : Edit} (h : e.may = true) : e.next ≤ 4611686018427387904 ∧ e.seq ≤ 4611686018427387904 ∧ e.log ≤ 4611686018427387904 ∧ e.add.length ≤ 1000 ∧ e.drop.length ≤ 1000 ∧ (∀ t ∈ e.add, t.may = true) ∧ ∀ n ∈ e.drop, n ≤ 4611686018427387904 := by
  simp [Edit.may, mayDrop] at h
  obtain ⟨⟨⟨⟨⟨h1, h2⟩, h3⟩, h4⟩, h5⟩, h6, h7⟩ := h
  exact ⟨by omega, by omega, by omega, by omega, by omega, h6, fun n hn => by have := h7 n hn; omega⟩
theorem pEdit_put {e : Edit} (h : e.may = true) (rest : List UInt8) : pEdit (editBytes e ++ rest, false) = (e, (rest, false)) := by
  obtain ⟨h1, h2, h3, h4, h5, h6, h7⟩ := may_edit h
  have e1 := fun r => readUint_put (mx := 4611686018427387904) (n := e.next) (by unfold M64; omega) h1 r
  have e2 := fun r => readUint_put (mx := 4611686018427387904) (n := e.seq) (by unfold M64; omega) h2 r
  have e3 := fun r => readUint_put (mx := 4611686018427387904) (n := e.log) (by unfold M64; omega) h3 r
  have e4 := fun r => readMany_put (n := e.add.length) h4 r
  have e5 := fun r => readMany_put (n := e.drop.length) h5 r
  have e6 := fun r => iter_put (f := pTable) (en := tableBytes) e.add r (fun t ht r => pTable_put (h6 t ht) r)
  have e7 := fun r => iter_put (f := uint62) (en := putUint) e.drop r (fun n hn r => readUint_put (by have := h7 n hn; unfold M64; omega) (h7 n hn) r)
  unfold pEdit editOf editBytes
  simp only [List.append_assoc, e1, e2, e3, e4, e6, e5, e7]
/-- an edit that can be written -/
def EditR (e : Edit) : Prop := e.may = true ∧ (editBytes e).length ≤ 262144
theorem decodeEdit_bytes {e : Edit} (h : EditR e) : decodeEdit (editBytes e) = (e, 0) := by
  have h1 := pEdit_put h.1 []
  rw [List.append_nil] at h1
  have h2 := h.2
  unfold decodeEdit editEnd
  rw [h1, if_neg (by simp [h.1]; omega)]
/-- an edit as a frame -/
def encE (e : Edit) : List UInt8 := frameBytes 7 (editBytes e)
theorem encodeEdit_right {e : Edit} (h : EditR e) : encodeEdit e = (encE e, 0) := by
  have := h.2
  rw [encodeEdit, if_pos h.1, putFrame, if_neg (by simp; omega)]
  rfl
theorem encodeEdit_wrong {e : Edit} (h : ¬ EditR e) : encodeEdit e = ([], 1) := by
  unfold encodeEdit
  by_cases hm : e.may = true
  · rw [if_pos hm, putFrame, if_pos]
    right
    exact Nat.lt_of_not_le fun hl => h ⟨hm, hl⟩
  · rw [if_neg hm]
theorem encE_len {e : Edit} (h : EditR e) : 5 ≤ (encE e).length ∧ (encE e).length ≤ 262200 := by
  have h1 := h.2
  have h2 := putText_length (l := editBytes e) (by omega)
  unfold encE
  rw [frameBytes_length]
  omega

/-- edits that are done one behind the other -/
def ChainM : Live → List Edit → Live → Prop
  | v, [], v' => v = v'
  | v, e :: K, v' => (applyWith putRef v e).2 = 0 ∧ ChainM (applyWith putRef v e).1 K v'
theorem ChainM.snoc {e : Edit} : ∀ {K : List Edit} {v v' : Live}, ChainM v K v' → (applyWith putRef v' e).2 = 0 → ChainM v (K ++ [e]) (applyWith putRef v' e).1
  | [], v, v', h, he => by
    have h' : v = v' := h
    subst h'
    exact ⟨he, rfl⟩
  | c :: K, v, v', h, he => ⟨h.1, ChainM.snoc h.2 he⟩
theorem ChainM.take : ∀ {K : List Edit} {v v' : Live} (n : Nat), ChainM v K v' → ∃ u, ChainM v (K.take n) u
  | [], v, v', n, _ => ⟨v, by simp [ChainM]⟩
  | c :: K, v, v', 0, _ => ⟨v, by simp [ChainM]⟩
  | c :: K, v, v', n + 1, h => by
    obtain ⟨u, h'⟩ := ChainM.take n h.2
    exact ⟨u, h.1, h'⟩
theorem ChainM.unique : ∀ {K : List Edit} {v a b : Live}, ChainM v K a → ChainM v K b → a = b
  | [], v, a, b, h, k => by rw [← show v = a from h]; exact k
  | c :: K, v, a, b, h, k => ChainM.unique h.2 k.2
/-- the frames of edits, from a place on -/
def framesE : Nat → List Edit → List (Nat × Frm)
  | _, [] => []
  | p, e :: K => (p, ⟨7, editBytes e⟩) :: framesE (p + (encE e).length) K
theorem framesE_len : ∀ (p : Nat) (K : List Edit), (framesE p K).length = K.length
  | _, [] => rfl
  | p, e :: K => by simp [framesE, framesE_len _ K]
theorem FrAt.of_edits {rest : List UInt8} : ∀ (K : List Edit) (pre : List UInt8) (F : List (Nat × Frm)) (fin : Nat), (∀ b ∈ K, EditR b) → FrAt (pre ++ (K.flatMap encE ++ rest)) (pre.length + (K.flatMap encE).length) F fin →
    FrAt (pre ++ (K.flatMap encE ++ rest)) pre.length (framesE pre.length K ++ F) fin
  | [], pre, F, fin, _, h => by simpa [framesE] using h
  | b :: K, pre, F, fin, hK, h => by
    have hb := hK b (by simp)
    have e : pre ++ ((b :: K).flatMap encE ++ rest) = (pre ++ encE b) ++ (K.flatMap encE ++ rest) := by simp
    have ih := FrAt.of_edits (rest := rest) K (pre ++ encE b) F fin (fun c hc => hK c (by simp [hc])) (by
      rw [← e]
      rw [List.flatMap_cons, List.length_append, ← Nat.add_assoc] at h
      rw [List.length_append]
      exact h)
    rw [← e, List.length_append] at ih
    refine .step _ _ (encE b).length _ _ ?_ ih
    rw [List.drop_left, List.flatMap_cons, List.append_assoc]
    exact takeFrame_put (by decide) hb.2 _
theorem okM_enc {v : Live} {p : Nat} {e : Edit} (hb : EditR e) (h : (applyWith putRef v e).2 = 0) : okM v (p, ⟨7, editBytes e⟩) = true := by
  unfold okM
  dsimp only
  rw [decodeEdit_bytes hb]
  simp [h]
theorem runMR_chain {fin : Nat} {F : List (Nat × Frm)} : ∀ (K : List Edit) (p : Nat) (v : Live) (c : Nat) (u : Live), (∀ b ∈ K, EditR b) → ChainM v K u → runMR fin (v, c) (framesE p K ++ F) = runMR fin (u, c + K.length) F
  | [], p, v, c, u, _, h => by
    have h' : v = u := h
    subst h'
    simp [framesE]
  | b :: K, p, v, c, u, hK, h => by
    have hb := hK b (by simp)
    rw [framesE, List.cons_append, runMR, if_pos (okM_enc hb h.1)]
    dsimp only [nextM]
    rw [decodeEdit_bytes hb, runMR_chain K _ _ _ u (fun c hc => hK c (by simp [hc])) h.2, List.length_cons]
    congr 2
    omega
/-- a manifest of edits, nothing behind it but a frame that is cut -/
theorem replay_cutM {K : List Edit} {v : Live} (hK : ∀ b ∈ K, EditR b) (h : ChainM noLive K v) (rest : List UInt8) (hr : (takeFrame rest).2.2 ≠ 0) :
    ∃ F, FrAt (K.flatMap encE ++ rest) 0 F (K.flatMap encE).length ∧ runMR (K.flatMap encE).length (noLive, 0) F = (v, K.length, (K.flatMap encE).length, 0) ∧ F.length = K.length := by
  have h0 : FrAt (K.flatMap encE ++ rest) (K.flatMap encE).length [] (K.flatMap encE).length := .stop _ (by rw [List.drop_left]; exact hr)
  have h1 := FrAt.of_edits (rest := rest) K [] [] _ hK (by simpa using h0)
  refine ⟨framesE 0 K, by simpa using h1, ?_, framesE_len 0 K⟩
  have := runMR_chain (fin := (K.flatMap encE).length) (F := []) K 0 noLive 0 v hK h
  rw [List.append_nil] at this
  rw [this, Nat.zero_add]
  rfl
theorem takeFrame_none : (takeFrame []).2.2 ≠ 0 := by simp [takeFrame]

/-- edits, and where they lie: what is done of them, and what it makes -/
def madeStep (st : Live × List LE) (q : LE) : Live × List LE := if (applyWith putRef st.1 q.e).2 = 0 then ((applyWith putRef st.1 q.e).1, st.2 ++ [q]) else st
def madeOf (L : List LE) : Live × List LE := L.foldl madeStep (noLive, [])
theorem madeOf_snoc (L : List LE) (q : LE) : madeOf (L ++ [q]) = madeStep (madeOf L) q := by simp [madeOf]
theorem madeOf_facts (L : List LE) : ChainM noLive ((madeOf L).2.map LE.e) (madeOf L).1 ∧ (∀ q ∈ (madeOf L).2, q ∈ L) ∧ (madeOf L).2.length ≤ L.length := by
  have key : ∀ k, k ≤ L.length → ChainM noLive ((madeOf (L.take k)).2.map LE.e) (madeOf (L.take k)).1 ∧ (∀ q ∈ (madeOf (L.take k)).2, q ∈ L) ∧ (madeOf (L.take k)).2.length ≤ k := by
    intro k
    induction k with
    | zero => intro _; simp [madeOf, ChainM]
    | succ k ih =>
      intro hk
      obtain ⟨h1, h2, h3⟩ := ih (by omega)
      have ht : L.take (k + 1) = L.take k ++ [L[k]] := by rw [List.take_add_one, List.getElem?_eq_getElem (by omega)]; rfl
      rw [ht, madeOf_snoc]
      unfold madeStep
      split
      · rename_i hz
        refine ⟨?_, ?_, ?_⟩
        · rw [List.map_append]; exact h1.snoc hz
        · intro q hq
          rcases List.mem_append.1 hq with h | h
          · exact h2 q h
          · rw [List.mem_singleton.1 h]; exact List.getElem_mem _
        · simp; omega
      · exact ⟨h1, h2, by omega⟩
  have := key L.length (Nat.le_refl _)
  rwa [List.take_length] at this
theorem madeOf_chain : ∀ (L : List LE) (v : Live), ChainM noLive (L.map LE.e) v → madeOf L = (v, L) := by
  have key : ∀ (L : List LE) (u v : Live) (D : List LE), ChainM u (L.map LE.e) v → L.foldl madeStep (u, D) = (v, D ++ L) := by
    intro L
    induction L with
    | nil => intro u v D h; rw [show u = v from h]; simp
    | cons q L ih =>
      intro u v D h
      rw [List.foldl_cons, madeStep, if_pos h.1, ih _ v _ h.2, List.append_assoc]
      rfl
  intro L v h
  have := key L noLive v [] h
  simpa [madeOf] using this
def bytesE (K : List Edit) : List UInt8 := K.flatMap encE
theorem bytesE_snoc (K : List Edit) (q : Edit) : bytesE (K ++ [q]) = bytesE K ++ encE q := by simp [bytesE]
/-- how far a cut reaches -/
structure CutE (cut : Int) (K : List Edit) (whole : Nat) : Prop where
  le : whole ≤ K.length
  in_ : whole = 0 ∨ ((bytesE (K.take whole)).length : Int) ≤ cut
  out : whole < K.length → cut < ((bytesE (K.take (whole + 1))).length : Int)
theorem CutE.start (cut : Int) : CutE cut [] 0 := ⟨by simp, .inl rfl, by simp⟩
theorem CutE.yes {cut : Int} {K : List Edit} {q : Edit} (h : ((bytesE (K ++ [q])).length : Int) ≤ cut) : CutE cut (K ++ [q]) (K.length + 1) :=
  ⟨by simp, .inr (by rw [List.take_of_length_le (by simp)]; exact h), by simp⟩
theorem CutE.no {cut : Int} {K : List Edit} {q : Edit} {whole : Nat} (hc : CutE cut K whole) (h : cut < ((bytesE (K ++ [q])).length : Int)) : CutE cut (K ++ [q]) whole := by
  have hl := hc.le
  refine ⟨by simp; omega, ?_, fun hlt => ?_⟩
  · rw [List.take_append_of_le_length hl]; exact hc.in_
  · rcases Nat.lt_or_ge whole K.length with h1 | h1
    · rw [List.take_append_of_le_length (by omega)]; exact hc.out h1
    · rw [List.take_of_length_le (by simp; omega)]; exact h
/-- the cut as a number -/
def cutM (cut : Int) (n : Nat) : Nat := (min (max cut 0) (n : Int)).toNat
theorem cutM_le (cut : Int) (n : Nat) : cutM cut n ≤ n := by unfold cutM; omega
theorem cutM_eq (cut : Int) (n : Nat) : min (max cut 0) (n : Int) = (cutM cut n : Int) := by unfold cutM; omega
/-- what a cut leaves -/
theorem CutE.split {cut : Int} {K : List Edit} {whole : Nat} (h : CutE cut K whole) (hR : ∀ q ∈ K, EditR q) : ∃ rest, (bytesE K).take (cutM cut (bytesE K).length) = bytesE (K.take whole) ++ rest ∧ (takeFrame rest).2.2 ≠ 0 := by
  obtain ⟨en, hen⟩ : ∃ en, en = (bytesE (K.take whole)).length := ⟨_, rfl⟩
  have hk : bytesE K = bytesE (K.take whole) ++ bytesE (K.drop whole) := by rw [bytesE, bytesE, bytesE, ← List.flatMap_append, List.take_append_drop]
  have hcn : en ≤ cutM cut (bytesE K).length := by
    have h1 : en ≤ (bytesE K).length := by rw [hk, List.length_append]; omega
    rcases h.in_ with h2 | h2
    · rw [hen, h2]; simp [bytesE]
    · rw [← hen] at h2; unfold cutM; omega
  rcases Nat.lt_or_ge whole K.length with h1 | h1
  · have h2 := h.out h1
    obtain ⟨q, hq⟩ : ∃ q, K[whole]? = some q := ⟨K[whole], List.getElem?_eq_getElem h1⟩
    have h3 : K.take (whole + 1) = K.take whole ++ [q] := by rw [List.take_add_one, hq]; rfl
    have h4 : K.drop whole = q :: K.drop (whole + 1) := by
      rw [List.drop_eq_getElem_cons h1]
      rw [List.getElem?_eq_getElem h1] at hq
      cases hq
      rfl
    have hq' := hR q (List.mem_of_getElem? hq)
    rw [h3, bytesE_snoc, List.length_append] at h2
    have h5 : bytesE K = bytesE (K.take whole) ++ (encE q ++ bytesE (K.drop (whole + 1))) := by rw [hk, h4]; simp [bytesE]
    have h6 : cutM cut (bytesE K).length < en + (encE q).length := by
      have := (encE_len hq').1
      unfold cutM
      omega
    refine ⟨(encE q).take (cutM cut (bytesE K).length - en), ?_, takeFrame_cut hq'.2 (by show _ < (encE q).length; omega)⟩
    conv => lhs; arg 2; rw [h5]
    rw [List.take_append, List.take_of_length_le (by omega), ← hen, List.take_append_of_le_length (by omega)]
  · refine ⟨[], ?_, takeFrame_none⟩
    have h7 : K.take whole = K := List.take_of_length_le h1
    rw [h7] at hen
    rw [h7, List.append_nil, List.take_of_length_le (by omega)]

/-- put somewhere: what holds between any two still does -/
theorem pairwise_put {α : Type} {R : α → α → Prop} {p : α → Bool} {l : List α} {t : α} (h : l.Pairwise R) (ht : ∀ u ∈ l, R u t ∧ R t u) : (l.takeWhile p ++ t :: l.dropWhile p).Pairwise R := by
  have hl : l.takeWhile p ++ l.dropWhile p = l := List.takeWhile_append_dropWhile
  rw [← hl, List.pairwise_append] at h
  rw [List.pairwise_append, List.pairwise_cons]
  refine ⟨h.1, ⟨fun b hb => (ht b ((List.dropWhile_sublist _).subset hb)).2, h.2.1⟩, fun a ha b hb => ?_⟩
  rcases List.mem_cons.1 hb with rfl | hb
  · exact (ht a ((List.takeWhile_sublist _).subset ha)).1
  · exact h.2.2 a ha b hb
theorem overB_comm (a b : Table) : overB a b = overB b a := by unfold overB; rw [Bool.and_comm]
/-- what holds of tables that edits made of nothing -/
structure WFl (v : Live) : Prop where
  lev : ∀ k, k < 4 → ∀ t ∈ v.tab k, t.level = k
  may : ∀ k, k < 4 → ∀ t ∈ v.tab k, t.may = true
  own : ∀ k, k < 4 → (v.tab k).Pairwise fun a b => a.num ≠ b.num
  far : ∀ i j, i < 4 → j < 4 → i ≠ j → ∀ a ∈ v.tab i, ∀ b ∈ v.tab j, a.num ≠ b.num
  lt : ∀ k, k < 4 → ∀ t ∈ v.tab k, t.num < v.next
  srt : v.Srt
  apart : ∀ k, k < 4 → 0 < k → (v.tab k).Pairwise fun a b => overB a b = false
  next : v.next ≤ 4611686018427387904
  seq : v.seq ≤ 4611686018427387904
  log : v.log ≤ 4611686018427387904
theorem WFl.zero : WFl noLive where
  lev := fun k _ t h => by simp [noLive] at h
  may := fun k _ t h => by simp [noLive] at h
  own := fun k _ => by simp [noLive]
  far := fun i j _ _ _ a h => by simp [noLive] at h
  lt := fun k _ t h => by simp [noLive] at h
  srt := noLive_srt
  apart := fun k _ _ => by simp [noLive]
  next := by simp [noLive]
  seq := by simp [noLive]
  log := by simp [noLive]
theorem WFl.kept {v : Live} (h : WFl v) {e : Edit} (hm : e.may = true) (hn : v.next ≤ e.next) : WFl (keptOf v e) := by
  obtain ⟨m1, m2, m3, -⟩ := may_edit hm
  have hs : ∀ k t, t ∈ (keptOf v e).tab k → t ∈ v.tab k := fun k t ht => (List.mem_filter.1 ht).1
  exact ⟨fun k hk t ht => h.lev k hk t (hs k t ht), fun k hk t ht => h.may k hk t (hs k t ht), fun k hk => (h.own k hk).filter _, fun i j hi hj hij a ha b hb => h.far i j hi hj hij a (hs i a ha) b (hs j b hb),
    fun k hk t ht => Nat.lt_of_lt_of_le (h.lt k hk t (hs k t ht)) hn, keptOf_srt h.srt e, fun k hk h0 => (h.apart k hk h0).filter _, m1, m2, m3⟩
theorem WFl.put {o : Live} (h : WFl o) {t : Table} (hm : t.may = true) (hnum : t.num ∉ numsOf o) (hlt : t.num < o.next) (hcl : clash t (o.tab (lvl t)) = false) : WFl (o.set (lvl t) (putRef (o.tab (lvl t)) t)) := by
  obtain ⟨c1, c2, -⟩ := may_table hm
  have hk4 : lvl t < 4 := by unfold lvl; omega
  have hlv : t.level = (lvl t : Int) := by unfold lvl; omega
  have hfr : ∀ i, i < 4 → ∀ u ∈ o.tab i, t.num ≠ u.num := fun i hi u hu e => hnum (mem_numsOf.2 ⟨i, hi, u, hu, e.symm⟩)
  have hmem : ∀ i u, u ∈ (o.set (lvl t) (putRef (o.tab (lvl t)) t)).tab i → (u = t ∧ i = lvl t) ∨ u ∈ o.tab i := fun i u hu => by
    by_cases hi : i = lvl t
    · subst hi
      rw [Live.set_same] at hu
      rcases putRef_mem hu with h1 | h1
      · exact .inl ⟨h1, rfl⟩
      · exact .inr h1
    · rw [Live.set_other _ _ hi] at hu
      exact .inr hu
  refine ⟨fun k hk u hu => ?_, fun k hk u hu => ?_, fun k hk => ?_, fun i j hi hj hij a ha b hb => ?_, fun k hk u hu => ?_, fun k => ?_, fun k hk h0 => ?_, h.next, h.seq, h.log⟩
  · rcases hmem k u hu with ⟨rfl, rfl⟩ | h1
    · exact hlv
    · exact h.lev k hk u h1
  · rcases hmem k u hu with ⟨rfl, rfl⟩ | h1
    · exact hm
    · exact h.may k hk u h1
  · by_cases hi : k = lvl t
    · subst hi
      rw [Live.set_same]
      exact pairwise_put (h.own _ hk) (fun u hu => ⟨fun e => hfr _ hk u hu e.symm, hfr _ hk u hu⟩)
    · rw [Live.set_other _ _ hi]
      exact h.own k hk
  · rcases hmem i a ha with ⟨rfl, rfl⟩ | h1
    · rcases hmem j b hb with ⟨rfl, rfl⟩ | h2
      · exact absurd rfl hij
      · exact hfr j hj b h2
    · rcases hmem j b hb with ⟨rfl, rfl⟩ | h2
      · exact fun e => hfr i hi a h1 e.symm
      · exact h.far i j hi hj hij a h1 b h2
  · rcases hmem k u hu with ⟨rfl, rfl⟩ | h1
    · exact hlt
    · exact h.lt k hk u h1
  · by_cases hi : k = lvl t
    · subst hi
      rw [Live.set_same]
      exact put_srt (h.srt _) hlv
    · rw [Live.set_other _ _ hi]
      exact h.srt k
  · by_cases hi : k = lvl t
    · subst hi
      rw [Live.set_same]
      have hov : ∀ u ∈ o.tab (lvl t), overB t u = false := fun u hu => by
        unfold clash at hcl
        rw [decide_eq_true (by omega), Bool.true_and, List.any_eq_false] at hcl
        exact Bool.not_eq_true _ |>.mp (hcl u hu)
      exact pairwise_put (h.apart _ hk h0) (fun u hu => ⟨by rw [overB_comm]; exact hov u hu, hov u hu⟩)
    · rw [Live.set_other _ _ hi]
      exact h.apart k hk h0
theorem WFl.all {n : Nat} : ∀ (ts : List Table) (v o : Live), (∀ t ∈ ts, t.may = true) → v.next = n → WFl v → addAll putRef n ts v = some o → WFl o
  | [], v, o, _, _, h, ha => by cases ha; exact h
  | t :: ts, v, o, hm, hn, h, ha => by
    unfold addAll at ha
    split at ha
    · cases ha
    · rename_i h1
      split at ha
      · cases ha
      · rename_i h2
        exact WFl.all ts (v.set (lvl t) (putRef (v.tab (lvl t)) t)) o (fun u hu => hm u (by simp [hu])) hn (h.put (hm t (by simp)) (fun e => h1 (.inl e)) (by omega) (Bool.not_eq_true _ |>.mp h2)) ha
theorem WFl.apply {v : Live} (h : WFl v) {e : Edit} (hz : (applyWith putRef v e).2 = 0) : WFl (applyWith putRef v e).1 := by
  unfold applyWith at hz ⊢
  split at hz
  · cases hz
  · rename_i hm
    rw [if_neg hm]
    split at hz
    · cases hz
    · rename_i h1
      rw [if_neg h1]
      split at hz
      · cases hz
      · rename_i h2
        rw [if_neg h2]
        cases ha : addAll putRef e.next e.add (keptOf v e) with
        | none => rw [ha] at hz; cases hz
        | some o =>
          have hm' : e.may = true := by simpa using hm
          exact WFl.all e.add _ o (may_edit hm').2.2.2.2.2.1 rfl (h.kept hm' (by omega)) ha
theorem WFl.chain : ∀ {K : List Edit} {v u : Live}, WFl v → ChainM v K u → WFl u
  | [], v, u, h, hc => by rw [← show v = u from hc]; exact h
  | e :: K, v, u, h, hc => WFl.chain (h.apply hc.1) hc.2

/-- the edit that tells it all -/
def allOf (v : Live) : List Table := v.tab 0 ++ (v.tab 1 ++ (v.tab 2 ++ v.tab 3))
def wholeE (v : Live) : Edit := ⟨v.next, v.seq, v.log, allOf v, []⟩
def part (v : Live) (k j : Nat) : Live := ⟨v.next, v.seq, v.log, fun i => if i < k then v.tab i else if i = k then (v.tab k).take j else []⟩
theorem part_next (v : Live) (k : Nat) : part v k (v.tab k).length = part v (k + 1) 0 := by
  unfold part
  congr 1
  funext i
  by_cases h1 : i < k
  · rw [if_pos h1, if_pos (by omega)]
  · by_cases h2 : i = k
    · subst h2
      rw [if_neg h1, if_pos rfl, if_pos (by omega), List.take_length]
    · rw [if_neg h1, if_neg h2, if_neg (by omega)]
      split
      · rfl
      · rfl
theorem WFl.ahead {v : Live} (h : WFl v) {k j : Nat} (hk : k < 4) {t : Table} (ht : (v.tab k)[j]? = some t) : ∀ u ∈ (v.tab k).take j, ahead t u = true ∧ overB t u = (if k = 0 then overB t u else false) := by
  intro u hu
  have hlv := h.lev k hk t (List.mem_of_getElem? ht)
  obtain ⟨i, hi, hiu⟩ := List.getElem_of_mem hu
  rw [List.length_take] at hi
  rw [List.getElem_take] at hiu
  have hjl : j < (v.tab k).length := (List.getElem?_eq_some_iff.1 ht).1
  have hjt : (v.tab k)[j] = t := (List.getElem?_eq_some_iff.1 ht).2
  have hij : i < j := by omega
  have e1 := List.pairwise_iff_getElem.1 (h.own k hk) i j (by omega) hjl hij
  have e2 := List.pairwise_iff_getElem.1 (h.srt k) i j (by omega) hjl hij
  rw [hiu, hjt] at e1 e2
  rw [ahead_key hlv]
  unfold keyLt at e2 ⊢
  by_cases h0 : k = 0
  · rw [if_pos h0] at e2 ⊢
    rw [if_pos h0]
    simp at e2 ⊢
    exact Nat.lt_of_le_of_ne e2 e1
  · rw [if_neg h0] at e2 ⊢
    rw [if_neg h0]
    have e3 := List.pairwise_iff_getElem.1 (h.apart k hk (by omega)) i j (by omega) hjl hij
    rw [hiu, hjt] at e3
    refine ⟨?_, by rw [overB_comm]; exact e3⟩
    have hut : u ∈ v.tab k := (List.take_sublist _ _).subset hu
    have mu := h.may k hk u hut
    have mt := h.may k hk t (List.mem_of_getElem? ht)
    have lu : leB u.least u.great = true := by simp [Table.may] at mu; exact mu.2
    have lt : leB t.least t.great = true := by simp [Table.may] at mt; exact mt.2
    unfold overB at e3
    simp only [Bool.and_eq_false_iff, Bool.not_eq_false'] at e3
    unfold leB at lu lt
    simp only [Bool.or_eq_true, beq_iff_eq] at lu lt
    rcases e3 with e3 | e3
    · rcases lu with lu | lu
      · exact ltB_neg_trans (ltB_asymm lu) e3
      · rw [lu]; exact e3
    · exfalso
      have : ltB t.least u.least = true := by
        rcases lt with lt | lt
        · exact ltB_neg_trans (ltB_asymm lt) e3
        · rw [lt]; exact e3
      rw [this] at e2
      cases e2
theorem part_step {v : Live} (h : WFl v) {k j : Nat} (hk : k < 4) {t : Table} (ht : (v.tab k)[j]? = some t) (rest : List Table) :
    addAll putProg v.next (t :: rest) (part v k j) = addAll putProg v.next rest (part v k (j + 1)) := by
  have htm := List.mem_of_getElem? ht
  have hlv : lvl t = k := by unfold lvl; rw [h.lev k hk t htm]; simp
  have hah := h.ahead hk ht
  have hjl : j < (v.tab k).length := (List.getElem?_eq_some_iff.1 ht).1
  have hjt : (v.tab k)[j] = t := (List.getElem?_eq_some_iff.1 ht).2
  have htk : (part v k j).tab k = (v.tab k).take j := by simp [part]
  have h1 : ¬ (t.num ∈ numsOf (part v k j) ∨ v.next ≤ t.num) := by
    rintro (h1 | h1)
    · obtain ⟨i, hi, u, hu, e⟩ := mem_numsOf.1 h1
      simp only [part] at hu
      split at hu
      · rename_i hik
        exact h.far i k hi hk (by omega) u hu t htm e
      · split at hu
        · rename_i hik
          subst hik
          obtain ⟨a, ha, hau⟩ := List.getElem_of_mem hu
          rw [List.length_take] at ha
          rw [List.getElem_take] at hau
          have e1 := List.pairwise_iff_getElem.1 (h.own i hi) a j (by omega) hjl (by omega)
          rw [hau, hjt] at e1
          exact e1 e
        · cases hu
    · have := h.lt k hk t htm
      omega
  have h2 : clash t ((part v k j).tab (lvl t)) = false := by
    rw [hlv, htk]
    unfold clash
    by_cases h0 : k = 0
    · rw [decide_eq_false (by rw [h.lev k hk t htm]; omega), Bool.false_and]
    · rw [List.any_eq_false.2 (fun u hu => by rw [(hah u hu).2, if_neg h0]; simp), Bool.and_false]
  rw [addAll, if_neg h1, h2, if_neg (by simp), hlv, htk]
  congr 1
  have hc : ((v.tab k).take j).countP (Go.Proofs.Yteplpgknnlehnaa.ahead t) = ((v.tab k).take j).length := List.countP_eq_length.2 fun u hu => (hah u hu).1
  unfold putProg
  rw [hc, List.take_length, List.drop_length]
  unfold part Live.set
  simp only [Live.mk.injEq, true_and]
  funext i
  by_cases h3 : i = k
  · subst h3
    simp only [if_true, Nat.lt_irrefl, if_false]
    rw [List.take_add_one, ht]
    rfl
  · rw [if_neg h3, if_neg h3, if_neg h3]
theorem part_level {v : Live} (h : WFl v) {k : Nat} (hk : k < 4) (rest : List Table) : addAll putProg v.next (v.tab k ++ rest) (part v k 0) = addAll putProg v.next rest (part v (k + 1) 0) := by
  have key : ∀ j, j ≤ (v.tab k).length → addAll putProg v.next (v.tab k ++ rest) (part v k 0) = addAll putProg v.next ((v.tab k).drop j ++ rest) (part v k j) := by
    intro j
    induction j with
    | zero => intro _; rfl
    | succ j ih =>
      intro hj
      rw [ih (by omega), List.drop_eq_getElem_cons (by omega), List.cons_append, part_step h hk (List.getElem?_eq_getElem (by omega))]
  rw [key _ (Nat.le_refl _), List.drop_length, List.nil_append, part_next]
theorem wholeE_may {v : Live} (h : WFl v) (hl : (allOf v).length ≤ 1000) : (wholeE v).may = true := by
  have h1 := h.next
  have h2 := h.seq
  have h3 := h.log
  have h4 : (allOf v).all Table.may = true := by
    rw [List.all_eq_true]
    intro t ht
    unfold allOf at ht
    simp only [List.mem_append] at ht
    rcases ht with ht | ht | ht | ht
    · exact h.may 0 (by omega) t ht
    · exact h.may 1 (by omega) t ht
    · exact h.may 2 (by omega) t ht
    · exact h.may 3 (by omega) t ht
  unfold Edit.may wholeE
  simp [h4]
  omega
theorem whole_back {v : Live} (h : WFl v) (hl : (allOf v).length ≤ 1000) : applyWith putProg noLive (wholeE v) = (part v 4 0, 0) := by
  have hm := wholeE_may h hl
  have ha : addAll putProg v.next (allOf v) (keptOf noLive (wholeE v)) = some (part v 4 0) := by
    have hk : keptOf noLive (wholeE v) = part v 0 0 := by
      unfold keptOf part noLive wholeE
      simp only [Live.mk.injEq, true_and]
      funext i
      simp
    have h3 := part_level h (k := 3) (by omega) []
    rw [List.append_nil] at h3
    unfold allOf
    rw [hk, part_level h (k := 0) (by omega), part_level h (k := 1) (by omega), part_level h (k := 2) (by omega), h3]
    rfl
  unfold applyWith
  rw [if_neg (by rw [hm]; simp), if_neg (by simp [noLive]), if_neg (by simp [wholeE, dropsOk])]
  show (match addAll putProg v.next (allOf v) (keptOf noLive (wholeE v)) with | none => _ | some o => _) = _
  rw [ha]
theorem part_whole (v : Live) : ∀ k, k < 4 → (part v 4 0).tab k = v.tab k := fun k hk => by simp [part, hk]
end Go.Proofs.Yteplpgknnlehnaa
