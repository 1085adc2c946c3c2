/- Batches written and read again (layer 5), and a log that is cut, as plain functions. No program in sight. -/
import Derived.Test.YteplpgknnlehnaaBack
import Derived.Test.YteplpgknnlehnaaWalRep
namespace Go.Proofs.Yteplpgknnlehnaa
set_option linter.unusedSimpArgs false
set_option linter.unusedVariables false
open Go.RowKit

theorem pPut_bytes {p : Put} (h : p.may = true) (rest : List UInt8) : pPut (putBytes p ++ rest) = some (p, rest) := by
  obtain ⟨k, v, d⟩ := p
  obtain ⟨hk, hv⟩ := may_len h
  dsimp only at hk hv
  have ht := fun r => takeText_put (l := k) (most := 96) hk (by unfold M64; omega) r
  cases d with
  | true =>
    have hv0 : v = [] := by
      simp [Put.may] at h
      exact h.2
    subst hv0
    unfold putBytes
    rw [if_pos rfl, List.cons_append, pPut_cons, ht]
    dsimp only
    rw [if_neg (by decide), if_neg (by simp), if_pos (by decide)]
    simp
  | false =>
    have hu := fun r => takeText_put (l := v) (most := 16384) hv (by unfold M64; omega) r
    unfold putBytes
    rw [if_neg (by simp), List.cons_append, List.append_assoc, pPut_cons, ht]
    dsimp only
    rw [if_neg (by decide), if_neg (by simp), if_neg (by decide)]
    simp only [List.drop_left]
    rw [hu]
    simp
theorem oiter_puts : ∀ (l : List Put) (rest : List UInt8), (∀ p ∈ l, p.may = true) → oiter pPut l.length (l.flatMap putBytes ++ rest) = some (l, rest) := by
  intro l
  have key : ∀ (l pre : List Put) (s0 : List UInt8) (rest : List UInt8), (∀ p ∈ l, p.may = true) → oiter pPut pre.length s0 = some (pre, l.flatMap putBytes ++ rest) → oiter pPut (pre.length + l.length) s0 = some (pre ++ l, rest) := by
    intro l
    induction l with
    | nil => intro pre s0 rest _ h; simpa using h
    | cons p l ih =>
      intro pre s0 rest hm h
      rw [List.flatMap_cons, List.append_assoc] at h
      have h1 := oiter_next h (pPut_bytes (hm p (by simp)) _)
      have h2 := ih (pre ++ [p]) s0 rest (fun q hq => hm q (by simp [hq])) (by rw [List.length_append]; exact h1)
      rw [List.length_append, List.append_assoc] at h2
      rw [List.length_cons, ← Nat.add_assoc, Nat.add_right_comm]
      exact h2
  intro rest hm
  have := key l [] (l.flatMap putBytes ++ rest) rest hm rfl
  simpa using this
theorem pBatch_load {b : Batch} (hs : b.seq < M64) (hl : b.puts.length ≤ 256) (hm : ∀ p ∈ b.puts, p.may = true) : pBatch (loadBytes b.seq b.puts) = some (b, []) := by
  have h1 := takeUint_put hs (putUint b.puts.length ++ b.puts.flatMap putBytes)
  have h2 := takeUint_put (n := b.puts.length) (by unfold M64; omega) (b.puts.flatMap putBytes)
  have h3 := oiter_puts b.puts [] hm
  rw [List.append_nil] at h3
  unfold pBatch loadBytes
  rw [List.append_assoc, h1]
  dsimp only
  rw [List.drop_left, h2]
  dsimp only
  rw [List.drop_left, h3, if_neg (by simp), if_neg (by omega)]
theorem decodeBatch_load {b : Batch} (h : b.Right) : decodeBatch (loadBytes b.seq b.puts) = (b, 0) := by
  obtain ⟨h1, h2, h3⟩ := wcheck_parts h.1
  have hs := h.seq
  rw [decodeBatch_some (pBatch_load (by unfold M64; omega) h1 h2), if_neg (by simp [h])]
theorem loadBytes_len {b : Batch} (h : b.Right) : (loadBytes b.seq b.puts).length ≤ 262144 := by
  obtain ⟨h1, h2, h3⟩ := wcheck_parts h.1
  have := putUint_mono maxSeq b.seq h.2.2.2.1
  unfold loadBytes at h3 ⊢
  simp only [List.length_append] at h3 ⊢
  omega
/-- a batch as a frame -/
def enc (b : Batch) : List UInt8 := frameBytes 2 (loadBytes b.seq b.puts)
theorem encodeBatch_right {b : Batch} (h : b.Right) : encodeBatch b = (enc b, 0) := by
  have := loadBytes_len h
  rw [encodeBatch, if_pos h, putFrame, if_neg (by simp; omega)]
  rfl
theorem encodeBatch_wrong {b : Batch} (h : ¬ b.Right) : encodeBatch b = ([], 1) := by rw [encodeBatch, if_neg h]
theorem enc_len {b : Batch} (h : b.Right) : 5 ≤ (enc b).length ∧ (enc b).length ≤ 262200 := by
  have h1 := loadBytes_len h
  have h2 := putText_length (l := loadBytes b.seq b.puts) (by omega)
  unfold enc
  rw [frameBytes_length]
  omega

/-- batches of which each may be, and begins behind the last -/
def Chain : Nat → List Batch → Nat → Prop
  | p, [], q => p = q
  | p, b :: K, q => b.Right ∧ p < b.seq ∧ Chain (lastOf b) K q
theorem Chain.snoc {b : Batch} (hb : b.Right) : ∀ {K : List Batch} {p q : Nat}, Chain p K q → q < b.seq → Chain p (K ++ [b]) (lastOf b)
  | [], p, q, h, hq => by
    have h' : p = q := h
    subst h'
    exact ⟨hb, hq, rfl⟩
  | c :: K, p, q, h, hq => ⟨h.1, h.2.1, Chain.snoc hb h.2.2 hq⟩
theorem Chain.take : ∀ {K : List Batch} {p q : Nat} (n : Nat), Chain p K q → ∃ q', Chain p (K.take n) q'
  | [], p, q, n, _ => ⟨p, by simp [Chain]⟩
  | c :: K, p, q, 0, _ => ⟨p, by simp [Chain]⟩
  | c :: K, p, q, n + 1, h => by
    obtain ⟨q', h'⟩ := Chain.take n h.2.2
    exact ⟨q', h.1, h.2.1, h'⟩
theorem Chain.all : ∀ {K : List Batch} {p q : Nat}, Chain p K q → ∀ b ∈ K, b.Right
  | c :: K, p, q, h, b, hb => by
    rcases List.mem_cons.1 hb with rfl | hb
    · exact h.1
    · exact Chain.all h.2.2 b hb

/-- the frames of batches, from a place on -/
def framesOf : Nat → List Batch → List (Nat × Frm)
  | _, [] => []
  | p, b :: K => (p, ⟨2, loadBytes b.seq b.puts⟩) :: framesOf (p + (enc b).length) K
theorem FrAt.of_batches {rest : List UInt8} : ∀ (K : List Batch) (pre : List UInt8) (F : List (Nat × Frm)) (fin : Nat), (∀ b ∈ K, b.Right) → FrAt (pre ++ (K.flatMap enc ++ rest)) (pre.length + (K.flatMap enc).length) F fin →
    FrAt (pre ++ (K.flatMap enc ++ rest)) pre.length (framesOf pre.length K ++ F) fin
  | [], pre, F, fin, _, h => by simpa [framesOf] using h
  | b :: K, pre, F, fin, hK, h => by
    have hb := hK b (by simp)
    have e : pre ++ ((b :: K).flatMap enc ++ rest) = (pre ++ enc b) ++ (K.flatMap enc ++ rest) := by simp
    have ih := FrAt.of_batches (rest := rest) K (pre ++ enc b) F fin (fun c hc => hK c (by simp [hc])) (by
      rw [← e]
      rw [List.flatMap_cons, List.length_append, ← Nat.add_assoc] at h
      rw [List.length_append]
      exact h)
    rw [← e, List.length_append] at ih
    refine .step _ _ (enc b).length _ _ ?_ ih
    rw [List.drop_left, List.flatMap_cons, List.append_assoc]
    exact takeFrame_put (by decide) (loadBytes_len hb) _
theorem okW_enc {seq p : Nat} {b : Batch} (hb : b.Right) (h : seq < b.seq) : okW seq (p, ⟨2, loadBytes b.seq b.puts⟩) = true := by
  unfold okW
  dsimp only
  rw [decodeBatch_load hb]
  simp [h]
theorem runR_chain {fin : Nat} {F : List (Nat × Frm)} : ∀ (K : List Batch) (p : Nat) (bs : List Batch) (seq q : Nat), Chain seq K q → runR fin (bs, seq) (framesOf p K ++ F) = runR fin (bs ++ K, q) F
  | [], p, bs, seq, q, h => by
    have h' : seq = q := h
    subst h'
    simp [framesOf]
  | b :: K, p, bs, seq, q, h => by
    rw [framesOf, List.cons_append, runR, if_pos (okW_enc h.1 h.2.1)]
    dsimp only
    rw [decodeBatch_load h.1, runR_chain K _ _ _ q h.2.2, List.append_assoc]
    rfl
theorem runR_more (fin : Nat) : ∀ (F : List (Nat × Frm)) (bs : List Batch) (seq : Nat), ∃ t, (runR fin (bs, seq) F).1 = bs ++ t
  | [], bs, seq => ⟨[], by simp [runR]⟩
  | x :: F, bs, seq => by
    unfold runR
    split
    · obtain ⟨t, ht⟩ := runR_more fin F (bs ++ [(decodeBatch x.2.load).1]) (lastOf (decodeBatch x.2.load).1)
      exact ⟨_, by rw [ht, List.append_assoc]⟩
    · exact ⟨[], by simp⟩

/-- what stands behind whole batches, and what a replay makes of it -/
theorem replay_whole {K : List Batch} {q : Nat} (h : Chain 0 K q) (rest : List UInt8) : ∃ F fin t, FrAt (K.flatMap enc ++ rest) 0 F fin ∧ (runR fin ([], 0) F).1 = K ++ t := by
  obtain ⟨F, fin, hF⟩ := FrAt.exists_ (K.flatMap enc ++ rest) ((K.flatMap enc ++ rest).length + 1) ((K.flatMap enc).length) (by omega) (by simp)
  have h1 := FrAt.of_batches (rest := rest) K [] F fin h.all (by simpa using hF)
  obtain ⟨t, ht⟩ := runR_more fin F K q
  exact ⟨_, fin, t, by simpa using h1, by
    show (runR fin ([], 0) (framesOf 0 K ++ F)).1 = _
    rw [runR_chain K 0 [] 0 q h]
    exact ht⟩
/-- .. where it is nothing, or a frame that is cut -/
theorem replay_cut {K : List Batch} {q : Nat} (h : Chain 0 K q) (rest : List UInt8) (hr : (takeFrame rest).2.2 ≠ 0) : ∃ F, FrAt (K.flatMap enc ++ rest) 0 F (K.flatMap enc).length ∧ runR (K.flatMap enc).length ([], 0) F = (K, (K.flatMap enc).length) := by
  have h0 : FrAt (K.flatMap enc ++ rest) (K.flatMap enc).length [] (K.flatMap enc).length := .stop _ (by rw [List.drop_left]; exact hr)
  have h1 := FrAt.of_batches (rest := rest) K [] [] _ h.all (by simpa using h0)
  refine ⟨_, by simpa using h1, ?_⟩
  have := runR_chain (fin := (K.flatMap enc).length) (F := []) K 0 [] 0 q h
  rw [List.append_nil] at this
  rw [this]
  rfl
end Go.Proofs.Yteplpgknnlehnaa
