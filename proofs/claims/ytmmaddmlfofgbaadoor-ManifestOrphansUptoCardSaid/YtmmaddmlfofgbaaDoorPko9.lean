/- Parts of this work, one behind the other: Orph2, Applies0, ManRep, ManBack, NamesLaw, ManApplies. -/
import Derived.BigGuardPart
import Derived.Test.YtmmaddmlfofgbaaDoorPko0
import Derived.Test.YtmmaddmlfofgbaaDoorPko7
import Derived.Test.YtmmaddmlfofgbaaDoorPko2
import Derived.Test.YtmmaddmlfofgbaaDoorPko6
import Derived.Test.YtmmaddmlfofgbaaDoorPko8
import Derived.Test.YtmmaddmlfofgbaaDoorPko1
import Derived.Test.YtmmaddmlfofgbaaDoorPko3
/- Orphans (layer 10): which names are kept, by the program and by the document: the same. No program in sight. -/
namespace Go.Proofs.YtmmaddmlfofgbaaDoor
set_option linter.unusedSimpArgs false
set_option linter.unusedVariables false
open Go.RowKit

def curT : List UInt8 := [99, 117, 114, 114, 101, 110, 116]
/-- the program's: what is live, as a set of names -/
def liveSet (v : Live) (name s : List UInt8) : Bool := decide (s = curT ∨ s = name ∨ ∃ n ∈ numsOf v, s = tabT ++ hexDigs 16 n)
def keepG (v : Live) (name s : List UInt8) : Bool := !liveSet v name s && (!(numbR logT s).2 || decide ((numbR logT s).1 < v.log))
/-- the document's -/
def keepD (v : Live) (name s : List UInt8) : Bool := !(decide (s = curT) || decide (s = name) || ((numbR tabT s).2 && decide ((numbR tabT s).1 ∈ numsOf v)) || ((numbR logT s).2 && decide (v.log ≤ (numbR logT s).1)))
theorem table_live {v : Live} (hv : ∀ n ∈ numsOf v, n < M64) (s : List UInt8) : (∃ n ∈ numsOf v, s = tabT ++ hexDigs 16 n) ↔ ((numbR tabT s).2 = true ∧ (numbR tabT s).1 ∈ numsOf v) := by
  constructor
  · rintro ⟨n, hn, rfl⟩
    rw [numb_back tabT n (hv n hn)]
    exact ⟨rfl, hn⟩
  · rintro ⟨h1, h2⟩
    obtain ⟨e, -⟩ := numb_name (ahead := tabT) (s := s) (n := (numbR tabT s).1) (by rw [← h1])
    exact ⟨_, h2, e⟩
theorem keep_same {v : Live} (hv : ∀ n ∈ numsOf v, n < M64) (name s : List UInt8) : keepG v name s = keepD v name s := by
  have ht : decide (∃ n ∈ numsOf v, s = tabT ++ hexDigs 16 n) = ((numbR tabT s).2 && decide ((numbR tabT s).1 ∈ numsOf v)) := by
    rw [Bool.eq_iff_iff, decide_eq_true_eq, Bool.and_eq_true, decide_eq_true_eq]
    exact table_live hv s
  have hg : decide (v.log ≤ (numbR logT s).1) = !decide ((numbR logT s).1 < v.log) := by
    by_cases h : (numbR logT s).1 < v.log
    · rw [decide_eq_true h, decide_eq_false (by omega)]; rfl
    · rw [decide_eq_false h, decide_eq_true (by omega)]; rfl
  unfold keepG keepD liveSet
  simp only [Bool.decide_or]
  rw [ht, hg]
  generalize decide (s = curT) = a
  generalize decide (s = name) = b
  generalize ((numbR tabT s).2 && decide ((numbR tabT s).1 ∈ numsOf v)) = c
  generalize (numbR logT s).2 = d
  generalize decide ((numbR logT s).1 < v.log) = e
  cases a <;> cases b <;> cases c <;> cases d <;> cases e <;> rfl
end Go.Proofs.YtmmaddmlfofgbaaDoor
/- The law ManifestApplies, walked. -/
namespace Go.Proofs.YtmmaddmlfofgbaaDoor
set_option linter.unusedSimpArgs false
set_option linter.unusedVariables false
open Go.RowKit

/-- an edit, and where its rows lie -/
structure LE where
  e : Edit
  A : Option Addr
  A' : Option Addr
  c : Nat
  c' : Nat
def LE.cells (q : LE) : List Value := [.int .u64 q.e.next, .int .u64 q.e.seq, .int .u64 q.e.log, .slice q.A q.e.add.length q.c, .slice q.A' q.e.drop.length q.c']
theorem LE.cells_len (q : LE) : q.cells.length = 5 := rfl
structure EditsR (w : World) (A : Option Addr) (L : List LE) : Prop where
  row : Row w 0 w.heap.size 5 A L.length (L.flatMap LE.cells)
  at_ : ∀ q ∈ L, EditAt w w.heap.size q.e q.A q.A'
theorem EditsR.ext {w w' : World} {A : Option Addr} {L : List LE} (h : EditsR w A L) (hb : Ext w w') : EditsR w' A L :=
  ⟨(h.row.below hb (Nat.le_refl _)).wide (Nat.le_refl _) hb.size, fun q hq => (h.at_ q hq).ext hb⟩

theorem putRef_mem {l : List Table} {t u : Table} (h : u ∈ putRef l t) : u = t ∨ u ∈ l := by
  unfold putRef at h
  rcases List.mem_append.1 h with h | h
  · exact .inr ((List.takeWhile_sublist _).subset h)
  · rcases List.mem_cons.1 h with h | h
    · exact .inl h
    · exact .inr ((List.dropWhile_sublist _).subset h)
theorem addAll_grow {next : Nat} : ∀ (ts : List Table) (v o : Live), addAll putRef next ts v = some o → ∀ k, (o.tab k).length ≤ (v.tab k).length + ts.length ∧ ∀ u ∈ o.tab k, u ∈ v.tab k ∨ u ∈ ts
  | [], v, o, h, k => by
    cases h
    exact ⟨Nat.le_refl _, fun u hu => .inl hu⟩
  | t :: ts, v, o, h, k => by
    unfold addAll at h
    split at h
    · cases h
    · split at h
      · cases h
      · obtain ⟨h1, h2⟩ := addAll_grow ts _ o h k
        by_cases hk : k = lvl t
        · subst hk
          rw [Live.set_same] at h1 h2
          rw [putRef_len] at h1
          refine ⟨by simp; omega, fun u hu => ?_⟩
          rcases h2 u hu with h3 | h3
          · rcases putRef_mem h3 with rfl | h4
            · exact .inr (by simp)
            · exact .inl h4
          · exact .inr (by simp [h3])
        · rw [Live.set_other _ _ hk] at h1 h2
          refine ⟨by simp; omega, fun u hu => ?_⟩
          rcases h2 u hu with h3 | h3
          · exact .inl h3
          · exact .inr (by simp [h3])
theorem may_few {e : Edit} (h : e.may = true) : e.add.length ≤ 1000 := by
  simp [Edit.may] at h
  omega
/-- what is done makes little more -/
theorem apply_grow {v : Live} {e : Edit} (h : (applyWith putRef v e).2 = 0) (hok : e.Ok) (hn : ∀ x ∈ numsOf v, x < M64) :
    (∀ k, ((applyWith putRef v e).1.tab k).length ≤ (v.tab k).length + 1000) ∧ ∀ x ∈ numsOf (applyWith putRef v e).1, x < M64 := by
  unfold applyWith at h ⊢
  by_cases hm : e.may = false
  · rw [if_pos hm] at h; cases h
  · rw [if_neg hm] at h ⊢
    split at h
    · cases h
    · rename_i h1
      rw [if_neg h1]
      split at h
      · cases h
      · rename_i h2
        rw [if_neg h2]
        cases ha : addAll putRef e.next e.add (keptOf v e) with
        | none => rw [ha] at h; cases h
        | some o =>
          have hg := addAll_grow e.add _ o ha
          have hf := may_few (by simpa using hm)
          refine ⟨fun k => ?_, fun x hx => ?_⟩
          · have := (hg k).1
            have h3 : ((keptOf v e).tab k).length ≤ (v.tab k).length := List.length_filter_le _ _
            show (o.tab k).length ≤ _
            omega
          · obtain ⟨k, hk, t, ht, rfl⟩ := mem_numsOf.1 hx
            rcases (hg k).2 t ht with h3 | h3
            · exact hn _ (mem_numsOf.2 ⟨k, hk, t, (List.mem_filter.1 h3).1, rfl⟩)
            · exact (hok.add t h3).1
theorem Fr.put7 {S : Nat → Prop} {a w : World} (h : Fr S a w) {g : Nat} (hg : ¬ S g) (v0 v1 v2 v3 v4 v5 v6 : Value) :
    Fr S a (((((((w.setCell ⟨g, 0, none⟩ v0).setCell ⟨g, 1, none⟩ v1).setCell ⟨g, 2, none⟩ v2).setCell ⟨g, 3, none⟩ v3).setCell ⟨g, 4, none⟩ v4).setCell ⟨g, 5, none⟩ v5).setCell ⟨g, 6, none⟩ v6) :=
  ((((((h.set (p := ⟨g, 0, none⟩) v0 (fun _ => hg)).set (p := ⟨g, 1, none⟩) v1 (fun _ => hg)).set (p := ⟨g, 2, none⟩) v2 (fun _ => hg)).set (p := ⟨g, 3, none⟩) v3 (fun _ => hg)).set (p := ⟨g, 4, none⟩) v4 (fun _ => hg)).set (p := ⟨g, 5, none⟩) v5 (fun _ => hg)).set (p := ⟨g, 6, none⟩) v6 (fun _ => hg)
theorem Fr.realloc (w : World) (x y : Obj) : Fr (fun b => b ≠ w.heap.size) (w.alloc x) (w.alloc y) :=
  ⟨rfl, rfl, rfl, by simp, fun k hk h => by
    have hk' : k < w.heap.size := by simp at hk; omega
    rw [Below.heap_alloc w x k hk', Below.heap_alloc w y k hk']⟩
end Go.Proofs.YtmmaddmlfofgbaaDoor
/- Manifests read whole (layer 10), as plain functions: the program's way and the document's way agree; what the tables that live are bounded by. -/
namespace Go.Proofs.YtmmaddmlfofgbaaDoor
set_option linter.unusedSimpArgs false
set_option linter.unusedVariables false
open Go.RowKit

theorem may_ok {e : Edit} (h : e.may = true) : e.Ok := by
  simp [Edit.may] at h
  obtain ⟨⟨⟨⟨⟨h1, h2⟩, h3⟩, h4⟩, h5⟩, h6, h7⟩ := h
  refine ⟨by unfold M64; omega, by unfold M64; omega, by unfold M64; omega, fun t ht => ?_, fun n hn => ?_, by omega, by omega⟩
  · have := h6 t ht
    simp [Table.may, mayKey] at this
    refine ⟨by unfold M64; omega, ?_, ?_, ?_, by omega, by omega⟩ <;> (unfold I64; omega)
  · have := h7 n hn
    simp [mayDrop] at this
    unfold M64
    omega
theorem decodeEdit_may {l : List UInt8} (h : (decodeEdit l).2 = 0) : (decodeEdit l).1.may = true := by
  unfold decodeEdit editEnd at h ⊢
  split at h
  · cases h
  · rename_i hc
    rw [if_neg hc]
    simp at hc
    exact hc.1.2
theorem decodeEdit_ok (l : List UInt8) : (decodeEdit l).1.Ok := by
  by_cases h : (decodeEdit l).2 = 0
  · exact may_ok (decodeEdit_may h)
  · have : (decodeEdit l).1 = noEdit := by
      unfold decodeEdit editEnd at h ⊢
      split
      · rfl
      · rename_i hc
        rw [if_neg hc] at h
        exact absurd rfl h
    rw [this]
    exact may_ok (by rfl)

def okM (v : Live) (x : Nat × Frm) : Bool := decide (x.2.kind = 7) && decide ((decodeEdit x.2.load).2 = 0) && decide ((applyWith putRef v (decodeEdit x.2.load).1).2 = 0)
def nextM (v : Live) (x : Nat × Frm) : Live := (applyWith putRef v (decodeEdit x.2.load).1).1
/-- what holds of the tables that live behind k edits -/
structure GoodM (k : Nat) (v : Live) : Prop where
  srt : v.Srt
  len : ∀ j, j < 4 → (v.tab j).length ≤ 1000 * k
  num : ∀ x ∈ numsOf v, x < M64
theorem GoodM.zero : GoodM 0 noLive := ⟨noLive_srt, fun j _ => by simp [noLive], fun x hx => by simp [numsOf, numsTo, noLive] at hx⟩
theorem GoodM.next {k : Nat} {v : Live} {x : Nat × Frm} (h : GoodM k v) (hx : okM v x = true) : GoodM (k + 1) (nextM v x) := by
  simp only [okM, Bool.and_eq_true, decide_eq_true_eq] at hx
  obtain ⟨g1, g2⟩ := apply_grow hx.2 (decodeEdit_ok _) h.num
  exact ⟨(apply_same h.srt _).2, fun j hj => by have := g1 j; have := h.len j hj; unfold nextM; omega, g2⟩
end Go.Proofs.YtmmaddmlfofgbaaDoor
/- Edits written and read again (layer 10), a manifest of edits, and one that is cut, as plain functions. No program in sight. -/
namespace Go.Proofs.YtmmaddmlfofgbaaDoor
set_option linter.unusedSimpArgs false
set_option linter.unusedVariables false
open Go.RowKit

theorem may_table {t : Table} (h : t.may = true) : 0 ≤ t.level ∧ t.level < 4 ∧ 1 ≤ t.size ∧ 1 ≤ t.count ∧ t.least.length ≤ 96 ∧ t.great.length ≤ 96 := by
  simp [Table.may, mayKey] at h
  omega
theorem may_edit {e : Edit} (h : e.may = true) : e.next ≤ 4611686018427387904 ∧ e.seq ≤ 4611686018427387904 ∧ e.log ≤ 4611686018427387904 ∧ e.add.length ≤ 1000 ∧ e.drop.length ≤ 1000 ∧ (∀ t ∈ e.add, t.may = true) ∧ ∀ n ∈ e.drop, n ≤ 4611686018427387904 := by
  simp [Edit.may, mayDrop] at h
  obtain ⟨⟨⟨⟨⟨h1, h2⟩, h3⟩, h4⟩, h5⟩, h6, h7⟩ := h
  exact ⟨by omega, by omega, by omega, by omega, by omega, h6, fun n hn => by have := h7 n hn; omega⟩
/-- an edit that can be written -/
def EditR (e : Edit) : Prop := e.may = true ∧ (editBytes e).length ≤ 262144
/-- an edit as a frame -/
def encE (e : Edit) : List UInt8 := frameBytes 7 (editBytes e)
theorem encE_len {e : Edit} (h : EditR e) : 5 ≤ (encE e).length ∧ (encE e).length ≤ 262200 := by
  have h1 := h.2
  have h2 := putText_length (l := editBytes e) (by omega)
  unfold encE
  rw [frameBytes_length]
  omega

/-- edits that are done one behind the other -/
def ChainM : Live → List Edit → Live → Prop
  | v, [], v' => v = v'
  | v, e :: K, v' => (applyWith putRef v e).2 = 0 ∧ ChainM (applyWith putRef v e).1 K v'
theorem ChainM.snoc {e : Edit} : ∀ {K : List Edit} {v v' : Live}, ChainM v K v' → (applyWith putRef v' e).2 = 0 → ChainM v (K ++ [e]) (applyWith putRef v' e).1
  | [], v, v', h, he => by
    have h' : v = v' := h
    subst h'
    exact ⟨he, rfl⟩
  | c :: K, v, v', h, he => ⟨h.1, ChainM.snoc h.2 he⟩
theorem ChainM.take : ∀ {K : List Edit} {v v' : Live} (n : Nat), ChainM v K v' → ∃ u, ChainM v (K.take n) u
  | [], v, v', n, _ => ⟨v, by simp [ChainM]⟩
  | c :: K, v, v', 0, _ => ⟨v, by simp [ChainM]⟩
  | c :: K, v, v', n + 1, h => by
    obtain ⟨u, h'⟩ := ChainM.take n h.2
    exact ⟨u, h.1, h'⟩
theorem takeFrame_none : (takeFrame []).2.2 ≠ 0 := by simp [takeFrame]

/-- edits, and where they lie: what is done of them, and what it makes -/
def madeStep (st : Live × List LE) (q : LE) : Live × List LE := if (applyWith putRef st.1 q.e).2 = 0 then ((applyWith putRef st.1 q.e).1, st.2 ++ [q]) else st
def madeOf (L : List LE) : Live × List LE := L.foldl madeStep (noLive, [])
theorem madeOf_snoc (L : List LE) (q : LE) : madeOf (L ++ [q]) = madeStep (madeOf L) q := by simp [madeOf]
theorem madeOf_facts (L : List LE) : ChainM noLive ((madeOf L).2.map LE.e) (madeOf L).1 ∧ (∀ q ∈ (madeOf L).2, q ∈ L) ∧ (madeOf L).2.length ≤ L.length := by
  have key : ∀ k, k ≤ L.length → ChainM noLive ((madeOf (L.take k)).2.map LE.e) (madeOf (L.take k)).1 ∧ (∀ q ∈ (madeOf (L.take k)).2, q ∈ L) ∧ (madeOf (L.take k)).2.length ≤ k := by
    intro k
    induction k with
    | zero => intro _; simp [madeOf, ChainM]
    | succ k ih =>
      intro hk
      obtain ⟨h1, h2, h3⟩ := ih (by omega)
      have ht : L.take (k + 1) = L.take k ++ [L[k]] := by rw [List.take_add_one, List.getElem?_eq_getElem (by omega)]; rfl
      rw [ht, madeOf_snoc]
      unfold madeStep
      split
      · rename_i hz
        refine ⟨?_, ?_, ?_⟩
        · rw [List.map_append]; exact h1.snoc hz
        · intro q hq
          rcases List.mem_append.1 hq with h | h
          · exact h2 q h
          · rw [List.mem_singleton.1 h]; exact List.getElem_mem _
        · simp; omega
      · exact ⟨h1, h2, by omega⟩
  have := key L.length (Nat.le_refl _)
  rwa [List.take_length] at this
def bytesE (K : List Edit) : List UInt8 := K.flatMap encE
theorem bytesE_snoc (K : List Edit) (q : Edit) : bytesE (K ++ [q]) = bytesE K ++ encE q := by simp [bytesE]
/-- how far a cut reaches -/
structure CutE (cut : Int) (K : List Edit) (whole : Nat) : Prop where
  le : whole ≤ K.length
  in_ : whole = 0 ∨ ((bytesE (K.take whole)).length : Int) ≤ cut
  out : whole < K.length → cut < ((bytesE (K.take (whole + 1))).length : Int)
theorem CutE.start (cut : Int) : CutE cut [] 0 := ⟨by simp, .inl rfl, by simp⟩
theorem CutE.no {cut : Int} {K : List Edit} {q : Edit} {whole : Nat} (hc : CutE cut K whole) (h : cut < ((bytesE (K ++ [q])).length : Int)) : CutE cut (K ++ [q]) whole := by
  have hl := hc.le
  refine ⟨by simp; omega, ?_, fun hlt => ?_⟩
  · rw [List.take_append_of_le_length hl]; exact hc.in_
  · rcases Nat.lt_or_ge whole K.length with h1 | h1
    · rw [List.take_append_of_le_length (by omega)]; exact hc.out h1
    · rw [List.take_of_length_le (by simp; omega)]; exact h
/-- the cut as a number -/
def cutM (cut : Int) (n : Nat) : Nat := (min (max cut 0) (n : Int)).toNat
/-- what a cut leaves -/
theorem CutE.split {cut : Int} {K : List Edit} {whole : Nat} (h : CutE cut K whole) (hR : ∀ q ∈ K, EditR q) : ∃ rest, (bytesE K).take (cutM cut (bytesE K).length) = bytesE (K.take whole) ++ rest ∧ (takeFrame rest).2.2 ≠ 0 := by
  obtain ⟨en, hen⟩ : ∃ en, en = (bytesE (K.take whole)).length := ⟨_, rfl⟩
  have hk : bytesE K = bytesE (K.take whole) ++ bytesE (K.drop whole) := by rw [bytesE, bytesE, bytesE, ← List.flatMap_append, List.take_append_drop]
  have hcn : en ≤ cutM cut (bytesE K).length := by
    have h1 : en ≤ (bytesE K).length := by rw [hk, List.length_append]; omega
    rcases h.in_ with h2 | h2
    · rw [hen, h2]; simp [bytesE]
    · rw [← hen] at h2; unfold cutM; omega
  rcases Nat.lt_or_ge whole K.length with h1 | h1
  · have h2 := h.out h1
    obtain ⟨q, hq⟩ : ∃ q, K[whole]? = some q := ⟨K[whole], List.getElem?_eq_getElem h1⟩
    have h3 : K.take (whole + 1) = K.take whole ++ [q] := by rw [List.take_add_one, hq]; rfl
    have h4 : K.drop whole = q :: K.drop (whole + 1) := by
      rw [List.drop_eq_getElem_cons h1]
      rw [List.getElem?_eq_getElem h1] at hq
      cases hq
      rfl
    have hq' := hR q (List.mem_of_getElem? hq)
    rw [h3, bytesE_snoc, List.length_append] at h2
    have h5 : bytesE K = bytesE (K.take whole) ++ (encE q ++ bytesE (K.drop (whole + 1))) := by rw [hk, h4]; simp [bytesE]
    have h6 : cutM cut (bytesE K).length < en + (encE q).length := by
      have := (encE_len hq').1
      unfold cutM
      omega
    refine ⟨(encE q).take (cutM cut (bytesE K).length - en), ?_, takeFrame_cut hq'.2 (by show _ < (encE q).length; omega)⟩
    conv => lhs; arg 2; rw [h5]
    rw [List.take_append, List.take_of_length_le (by omega), ← hen, List.take_append_of_le_length (by omega)]
  · refine ⟨[], ?_, takeFrame_none⟩
    have h7 : K.take whole = K := List.take_of_length_le h1
    rw [h7] at hen
    rw [h7, List.append_nil, List.take_of_length_le (by omega)]

/-- put somewhere: what holds between any two still does -/
theorem pairwise_put {α : Type} {R : α → α → Prop} {p : α → Bool} {l : List α} {t : α} (h : l.Pairwise R) (ht : ∀ u ∈ l, R u t ∧ R t u) : (l.takeWhile p ++ t :: l.dropWhile p).Pairwise R := by
  have hl : l.takeWhile p ++ l.dropWhile p = l := List.takeWhile_append_dropWhile
  rw [← hl, List.pairwise_append] at h
  rw [List.pairwise_append, List.pairwise_cons]
  refine ⟨h.1, ⟨fun b hb => (ht b ((List.dropWhile_sublist _).subset hb)).2, h.2.1⟩, fun a ha b hb => ?_⟩
  rcases List.mem_cons.1 hb with rfl | hb
  · exact (ht a ((List.takeWhile_sublist _).subset ha)).1
  · exact h.2.2 a ha b hb
theorem overB_comm (a b : Table) : overB a b = overB b a := by unfold overB; rw [Bool.and_comm]
/-- what holds of tables that edits made of nothing -/
structure WFl (v : Live) : Prop where
  lev : ∀ k, k < 4 → ∀ t ∈ v.tab k, t.level = k
  may : ∀ k, k < 4 → ∀ t ∈ v.tab k, t.may = true
  own : ∀ k, k < 4 → (v.tab k).Pairwise fun a b => a.num ≠ b.num
  far : ∀ i j, i < 4 → j < 4 → i ≠ j → ∀ a ∈ v.tab i, ∀ b ∈ v.tab j, a.num ≠ b.num
  lt : ∀ k, k < 4 → ∀ t ∈ v.tab k, t.num < v.next
  srt : v.Srt
  apart : ∀ k, k < 4 → 0 < k → (v.tab k).Pairwise fun a b => overB a b = false
  next : v.next ≤ 4611686018427387904
  seq : v.seq ≤ 4611686018427387904
  log : v.log ≤ 4611686018427387904
theorem WFl.zero : WFl noLive where
  lev := fun k _ t h => by simp [noLive] at h
  may := fun k _ t h => by simp [noLive] at h
  own := fun k _ => by simp [noLive]
  far := fun i j _ _ _ a h => by simp [noLive] at h
  lt := fun k _ t h => by simp [noLive] at h
  srt := noLive_srt
  apart := fun k _ _ => by simp [noLive]
  next := by simp [noLive]
  seq := by simp [noLive]
  log := by simp [noLive]
theorem WFl.kept {v : Live} (h : WFl v) {e : Edit} (hm : e.may = true) (hn : v.next ≤ e.next) : WFl (keptOf v e) := by
  obtain ⟨m1, m2, m3, -⟩ := may_edit hm
  have hs : ∀ k t, t ∈ (keptOf v e).tab k → t ∈ v.tab k := fun k t ht => (List.mem_filter.1 ht).1
  exact ⟨fun k hk t ht => h.lev k hk t (hs k t ht), fun k hk t ht => h.may k hk t (hs k t ht), fun k hk => (h.own k hk).filter _, fun i j hi hj hij a ha b hb => h.far i j hi hj hij a (hs i a ha) b (hs j b hb),
    fun k hk t ht => Nat.lt_of_lt_of_le (h.lt k hk t (hs k t ht)) hn, keptOf_srt h.srt e, fun k hk h0 => (h.apart k hk h0).filter _, m1, m2, m3⟩
theorem WFl.put {o : Live} (h : WFl o) {t : Table} (hm : t.may = true) (hnum : t.num ∉ numsOf o) (hlt : t.num < o.next) (hcl : clash t (o.tab (lvl t)) = false) : WFl (o.set (lvl t) (putRef (o.tab (lvl t)) t)) := by
  obtain ⟨c1, c2, -⟩ := may_table hm
  have hk4 : lvl t < 4 := by unfold lvl; omega
  have hlv : t.level = (lvl t : Int) := by unfold lvl; omega
  have hfr : ∀ i, i < 4 → ∀ u ∈ o.tab i, t.num ≠ u.num := fun i hi u hu e => hnum (mem_numsOf.2 ⟨i, hi, u, hu, e.symm⟩)
  have hmem : ∀ i u, u ∈ (o.set (lvl t) (putRef (o.tab (lvl t)) t)).tab i → (u = t ∧ i = lvl t) ∨ u ∈ o.tab i := fun i u hu => by
    by_cases hi : i = lvl t
    · subst hi
      rw [Live.set_same] at hu
      rcases putRef_mem hu with h1 | h1
      · exact .inl ⟨h1, rfl⟩
      · exact .inr h1
    · rw [Live.set_other _ _ hi] at hu
      exact .inr hu
  refine ⟨fun k hk u hu => ?_, fun k hk u hu => ?_, fun k hk => ?_, fun i j hi hj hij a ha b hb => ?_, fun k hk u hu => ?_, fun k => ?_, fun k hk h0 => ?_, h.next, h.seq, h.log⟩
  · rcases hmem k u hu with ⟨rfl, rfl⟩ | h1
    · exact hlv
    · exact h.lev k hk u h1
  · rcases hmem k u hu with ⟨rfl, rfl⟩ | h1
    · exact hm
    · exact h.may k hk u h1
  · by_cases hi : k = lvl t
    · subst hi
      rw [Live.set_same]
      exact pairwise_put (h.own _ hk) (fun u hu => ⟨fun e => hfr _ hk u hu e.symm, hfr _ hk u hu⟩)
    · rw [Live.set_other _ _ hi]
      exact h.own k hk
  · rcases hmem i a ha with ⟨rfl, rfl⟩ | h1
    · rcases hmem j b hb with ⟨rfl, rfl⟩ | h2
      · exact absurd rfl hij
      · exact hfr j hj b h2
    · rcases hmem j b hb with ⟨rfl, rfl⟩ | h2
      · exact fun e => hfr i hi a h1 e.symm
      · exact h.far i j hi hj hij a h1 b h2
  · rcases hmem k u hu with ⟨rfl, rfl⟩ | h1
    · exact hlt
    · exact h.lt k hk u h1
  · by_cases hi : k = lvl t
    · subst hi
      rw [Live.set_same]
      exact put_srt (h.srt _) hlv
    · rw [Live.set_other _ _ hi]
      exact h.srt k
  · by_cases hi : k = lvl t
    · subst hi
      rw [Live.set_same]
      have hov : ∀ u ∈ o.tab (lvl t), overB t u = false := fun u hu => by
        unfold clash at hcl
        rw [decide_eq_true (by omega), Bool.true_and, List.any_eq_false] at hcl
        exact Bool.not_eq_true _ |>.mp (hcl u hu)
      exact pairwise_put (h.apart _ hk h0) (fun u hu => ⟨by rw [overB_comm]; exact hov u hu, hov u hu⟩)
    · rw [Live.set_other _ _ hi]
      exact h.apart k hk h0
theorem WFl.all {n : Nat} : ∀ (ts : List Table) (v o : Live), (∀ t ∈ ts, t.may = true) → v.next = n → WFl v → addAll putRef n ts v = some o → WFl o
  | [], v, o, _, _, h, ha => by cases ha; exact h
  | t :: ts, v, o, hm, hn, h, ha => by
    unfold addAll at ha
    split at ha
    · cases ha
    · rename_i h1
      split at ha
      · cases ha
      · rename_i h2
        exact WFl.all ts (v.set (lvl t) (putRef (v.tab (lvl t)) t)) o (fun u hu => hm u (by simp [hu])) hn (h.put (hm t (by simp)) (fun e => h1 (.inl e)) (by omega) (Bool.not_eq_true _ |>.mp h2)) ha
theorem WFl.apply {v : Live} (h : WFl v) {e : Edit} (hz : (applyWith putRef v e).2 = 0) : WFl (applyWith putRef v e).1 := by
  unfold applyWith at hz ⊢
  split at hz
  · cases hz
  · rename_i hm
    rw [if_neg hm]
    split at hz
    · cases hz
    · rename_i h1
      rw [if_neg h1]
      split at hz
      · cases hz
      · rename_i h2
        rw [if_neg h2]
        cases ha : addAll putRef e.next e.add (keptOf v e) with
        | none => rw [ha] at hz; cases hz
        | some o =>
          have hm' : e.may = true := by simpa using hm
          exact WFl.all e.add _ o (may_edit hm').2.2.2.2.2.1 rfl (h.kept hm' (by omega)) ha
def part (v : Live) (k j : Nat) : Live := ⟨v.next, v.seq, v.log, fun i => if i < k then v.tab i else if i = k then (v.tab k).take j else []⟩
theorem WFl.ahead {v : Live} (h : WFl v) {k j : Nat} (hk : k < 4) {t : Table} (ht : (v.tab k)[j]? = some t) : ∀ u ∈ (v.tab k).take j, ahead t u = true ∧ overB t u = (if k = 0 then overB t u else false) := by
  intro u hu
  have hlv := h.lev k hk t (List.mem_of_getElem? ht)
  obtain ⟨i, hi, hiu⟩ := List.getElem_of_mem hu
  rw [List.length_take] at hi
  rw [List.getElem_take] at hiu
  have hjl : j < (v.tab k).length := (List.getElem?_eq_some_iff.1 ht).1
  have hjt : (v.tab k)[j] = t := (List.getElem?_eq_some_iff.1 ht).2
  have hij : i < j := by omega
  have e1 := List.pairwise_iff_getElem.1 (h.own k hk) i j (by omega) hjl hij
  have e2 := List.pairwise_iff_getElem.1 (h.srt k) i j (by omega) hjl hij
  rw [hiu, hjt] at e1 e2
  rw [ahead_key hlv]
  unfold keyLt at e2 ⊢
  by_cases h0 : k = 0
  · rw [if_pos h0] at e2 ⊢
    rw [if_pos h0]
    simp at e2 ⊢
    exact Nat.lt_of_le_of_ne e2 e1
  · rw [if_neg h0] at e2 ⊢
    rw [if_neg h0]
    have e3 := List.pairwise_iff_getElem.1 (h.apart k hk (by omega)) i j (by omega) hjl hij
    rw [hiu, hjt] at e3
    refine ⟨?_, by rw [overB_comm]; exact e3⟩
    have hut : u ∈ v.tab k := (List.take_sublist _ _).subset hu
    have mu := h.may k hk u hut
    have mt := h.may k hk t (List.mem_of_getElem? ht)
    have lu : leB u.least u.great = true := by simp [Table.may] at mu; exact mu.2
    have lt : leB t.least t.great = true := by simp [Table.may] at mt; exact mt.2
    unfold overB at e3
    simp only [Bool.and_eq_false_iff, Bool.not_eq_false'] at e3
    unfold leB at lu lt
    simp only [Bool.or_eq_true, beq_iff_eq] at lu lt
    rcases e3 with e3 | e3
    · rcases lu with lu | lu
      · exact ltB_neg_trans (ltB_asymm lu) e3
      · rw [lu]; exact e3
    · exfalso
      have : ltB t.least u.least = true := by
        rcases lt with lt | lt
        · exact ltB_neg_trans (ltB_asymm lt) e3
        · rw [lt]; exact e3
      rw [this] at e2
      cases e2
end Go.Proofs.YtmmaddmlfofgbaaDoor
/- The laws WalNames and ManifestNames (layers 5 and 10): the laws' walks. -/
namespace Go.Proofs.YtmmaddmlfofgbaaDoor
set_option linter.unusedSimpArgs false
set_option linter.unusedVariables false
open Go.RowKit Res

end Go.Proofs.YtmmaddmlfofgbaaDoor
/- The statement ManifestApplies: for edits that hold together at most 2^20 values and letters the law returns true, and the edits read as they did. -/
namespace Go.Proofs.YtmmaddmlfofgbaaDoor.manifestApplies
set_option linter.unusedSimpArgs false
set_option linter.unusedVariables false
open Go.ChangeShapes Go.WideShapes Go.ChangeAt Go.RowKit Go.Deep
set_option linter.unusedVariables false

theorem own : ownKnob Tryd.prog.godebug = none := by kernel_rfl
theorem laidOut : laidOutB Tryd.prog = true := by kernel_rfl

/-- how great an edit is -/
def bigT (t : Table) : Nat := t.least.length + t.great.length + 1
def bigE (e : Edit) : Nat := e.add.foldr (fun t m => max (bigT t) m) (e.add.length + e.drop.length + 1)
theorem fold_le {B : Nat} : ∀ (l : List Table) (m : Nat), m ≤ B → (∀ t ∈ l, bigT t ≤ B) → l.foldr (fun t m => max (bigT t) m) m ≤ B
  | [], m, h, _ => h
  | t :: l, m, h, hp => by
    have h1 := fold_le l m h (fun q hq => hp q (by simp [hq]))
    have h2 := hp t (by simp)
    simp only [List.foldr_cons]
    omega
theorem le_fold : ∀ (l : List Table) (m : Nat), m ≤ l.foldr (fun t m => max (bigT t) m) m ∧ ∀ t ∈ l, bigT t ≤ l.foldr (fun t m => max (bigT t) m) m
  | [], m => ⟨Nat.le_refl _, by simp⟩
  | t :: l, m => by
    obtain ⟨h1, h2⟩ := le_fold l m
    simp only [List.foldr_cons]
    refine ⟨by omega, fun q hq => ?_⟩
    rcases List.mem_cons.1 hq with rfl | hq
    · omega
    · have := h2 q hq; omega
/-- its numbers fit their words -/
structure Fits (e : Edit) : Prop where
  next : e.next < M64
  seq : e.seq < M64
  log : e.log < M64
  add : ∀ t ∈ e.add, t.num < M64 ∧ I64 t.level ∧ I64 t.size ∧ I64 t.count
  drop : ∀ n ∈ e.drop, n < M64
theorem Fits.ok {e : Edit} (h : Fits e) (hb : bigE e ≤ 1048576) : e.Ok := by
  obtain ⟨h1, h2⟩ := le_fold e.add (e.add.length + e.drop.length + 1)
  unfold bigE at hb
  refine ⟨h.next, h.seq, h.log, fun t ht => ?_, h.drop, by omega, by omega⟩
  obtain ⟨f1, f2, f3, f4⟩ := h.add t ht
  have h3 := h2 t ht
  have h4 : bigT t = t.least.length + t.great.length + 1 := rfl
  exact ⟨f1, f2, f3, f4, by omega, by omega⟩

theorem read_le {H : Type} {enc : TypeId × Value → H} {w : World} {base : Nat} {spare : Nat → Bool} {held : Bool} (fuel : Nat) (cs : List Value) (x : DataW H × List MemPlace)
    (h : DataW.trod enc Tryd.prog w base spare held fuel 39 cs = some x) :
    ∃ q : LE, (cs = q.cells ∧ Fits q.e ∧ EditAt w w.heap.size q.e q.A q.A' ∧ q.e.drop.length ≤ q.c') ∧ bigE q.e ≤ Rows.uptoBulk x.1 := by
  obtain ⟨y0, y1, y2, y3, y4, n, rfl, hl, h0, h1, h2, h3, h4⟩ := trod_struct5 manifestEncodes.edit_under h
  have e5 : Tryd.prog.cellsOf 39 = 5 := by kernel_rfl
  have eu : Tryd.prog.cellsOf 24 = 1 := by kernel_rfl
  have es : Tryd.prog.cellsOf 25 = 1 := by kernel_rfl
  have en : Tryd.prog.cellsOf 37 = 1 := by kernel_rfl
  rw [e5] at hl
  obtain ⟨c0, c1, c2, c3, c4, rfl⟩ := list5 hl
  simp only [eu, es, en] at h0 h1 h2 h3 h4
  obtain ⟨a0, k0, b0⟩ := read_u64 Tryd.underlying24 h0
  obtain ⟨a1, k1, b1⟩ := read_u64 Tryd.underlying24 h1
  obtain ⟨a2, k2, b2⟩ := read_u64 Tryd.underlying24 h2
  obtain ⟨A, c, l, k3, hr3, _, _, hb3, hm3⟩ := read_slice (sz := 6) (fun (t : Table) cs => cs = t.cells ∧ t.num < M64 ∧ I64 t.level ∧ I64 t.size ∧ I64 t.count) (fun t => t.least.length + t.great.length + 1) Tryd.underlying25 (by kernel_rfl) (by decide) manifestEncodes.read_table h3
  obtain ⟨A', c', l', k4, hr4, hlc4, _, hb4, _⟩ := read_slice (sz := 1) (fun (n : Nat) cs => cs = u64C n ∧ n < M64) (fun _ => 0) Tryd.underlying37 (by kernel_rfl) (by decide) manifestEncodes.read_number h4
  simp at k0 k1 k2 k3 k4
  subst k0 k1 k2 k3 k4
  obtain ⟨hr3, hf3⟩ := manifestEncodes.rowR_facts hr3
  obtain ⟨hr4, hf4⟩ := manifestEncodes.rowR_facts hr4
  refine ⟨⟨⟨a0, a1, a2, l, l'⟩, A, A', c, c'⟩, ⟨rfl, ⟨b0, b1, b2, hf3, hf4⟩, ⟨hr3.plain.wide (Nat.zero_le _) (Nat.le_refl _), hr4.plain.wide (Nat.zero_le _) (Nat.le_refl _)⟩, hlc4⟩, ?_⟩
  simp only [Rows.uptoBulk, Rows.uptoBulkAll]
  refine fold_le _ _ (by dsimp only; omega) (fun t ht => ?_)
  have := hm3 t ht
  unfold bigT
  omega

end Go.Proofs.YtmmaddmlfofgbaaDoor.manifestApplies
namespace Go.Proofs.YtmmaddmlfofgbaaDoor
end Go.Proofs.YtmmaddmlfofgbaaDoor
