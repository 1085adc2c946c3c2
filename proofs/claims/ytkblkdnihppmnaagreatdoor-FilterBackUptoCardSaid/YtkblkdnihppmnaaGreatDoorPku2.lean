/- Parts of this work, one behind the other: FiltZd. -/
import Derived.Lib.ItoaLen
import Derived.Test.YtkblkdnihppmnaaGreatDoorPku1
/- Filters (layer 21): how long a filter's text is. No program in sight. -/
namespace Go.Proofs.YtkblkdnihppmnaaGreatDoor.Filt
set_option linter.unusedSimpArgs false
set_option linter.unusedVariables false

def Nd.size : Nd → Nat
  | .num _ _ _ => 1
  | .idt _ _ => 1
  | .not n => n.size + 1
  | .all a b => a.size + b.size + 1
  | .any a b => a.size + b.size + 1
def NT.acc : NT → Nat
  | .allMore n | .anyMore n => n.size
  | _ => 0
section
variable {s : List UInt8}
theorem test_size {p q : Nat} {n : Nd} (h : (lang s).test true p = .ok n q) : n.size = 1 := by
  have := (test_valid _ _ _ _ h).2
  cases n with
  | num => rfl
  | idt => rfl
  | not n => have := this.1; simp [dep] at this
  | all => have := this.2; simp [rankOf] at this
  | any => have := this.2; simp [rankOf] at this
theorem reads_size {nt : NT} {d p : Nat} {r : Res} (h : Reads (lang s) true nt d p r) : ∀ {n q}, r = .ok n q → p + n.size ≤ q + nt.acc := by
  induction h with
  | test h1 h2 => intro n q e; have := test_gt e; have := test_size e; simp only [NT.acc]; omega
  | notOk h hd ha hr ih =>
    intro n q e
    cases e
    have := ih rfl
    have b := word_gt h
    have a := adv_next ha
    simp only [NT.acc, Nd.size] at *
    omega
  | openOk h0 h hd ha hr hc hb ih =>
    intro n q e
    cases e
    have := ih rfl
    have b := word_gt h
    have a := adv_next ha
    have a3 := adv_next hb
    have b3 := word_gt hc
    simp only [NT.acc, Nd.size] at *
    omega
  | allOk h hr ih1 ih2 =>
    intro n q e
    have i1 := ih1 rfl
    have i2 := ih2 e
    simp only [NT.acc, Nd.size] at *
    omega
  | allEnd h => intro n q e; cases e; exact Nat.le_refl _
  | allMore h ha hr hm ih1 ih2 =>
    intro n q e
    have i1 := ih1 rfl
    have i2 := ih2 e
    have b := word_gt h
    have a := adv_next ha
    simp only [NT.acc, Nd.size] at *
    omega
  | anyOk h hr ih1 ih2 =>
    intro n q e
    have i1 := ih1 rfl
    have i2 := ih2 e
    simp only [NT.acc, Nd.size] at *
    omega
  | anyEnd h => intro n q e; cases e; exact Nat.le_refl _
  | anyMore h ha hr hm ih1 ih2 =>
    intro n q e
    have i1 := ih1 rfl
    have i2 := ih2 e
    have b := word_gt h
    have a := adv_next ha
    simp only [NT.acc, Nd.size] at *
    omega
  | _ => intro n q e; cases e
theorem reads_le {nt : NT} {d p : Nat} {r : Res} (h : Reads (lang s) true nt d p r) : ∀ {n q}, r = .ok n q → p ≤ s.length → (lex s p).kind ≠ .bad → q ≤ s.length ∧ (lex s q).kind ≠ .bad := by
  intro n q e hp hb
  exact (reads_ctx [] [] h e hp hb).1
end
theorem field_len (f : Nat) : (fieldNames.getD f []).length ≤ 8 := by
  have h : ((List.range 14).all fun f => decide ((fieldNames.getD f []).length ≤ 8)) = true := by decide
  by_cases hf : f < 14
  · simpa using List.all_eq_true.1 h f (List.mem_range.2 hf)
  · rw [List.getD_eq_getElem?_getD, List.getElem?_eq_none (by simp [fieldNames]; omega)]; simp
theorem ask_len (k : Nat) : (askNames.getD k []).length ≤ 2 := by
  have h : ((List.range 6).all fun f => decide ((askNames.getD f []).length ≤ 2)) = true := by decide
  by_cases hf : k < 6
  · simpa using List.all_eq_true.1 h k (List.mem_range.2 hf)
  · rw [List.getD_eq_getElem?_getD, List.getElem?_eq_none (by simp [askNames]; omega)]; simp
theorem status_len (k : Nat) : (statusNames.getD k []).length ≤ 9 := by
  have h : ((List.range 7).all fun f => decide ((statusNames.getD f []).length ≤ 9)) = true := by decide
  by_cases hf : k < 7
  · simpa using List.all_eq_true.1 h k (List.mem_range.2 hf)
  · rw [List.getD_eq_getElem?_getD, List.getElem?_eq_none (by simp [statusNames]; omega)]; simp
theorem itoa_len {n : Int} (h : I64 n) : (Lib.itoa n).length ≤ 21 := Lib.itoa_length_le n h.1 h.2
theorem within_len (r : Nat) (n : Nd) (t : List UInt8) : (within r n t).length ≤ t.length + 2 := by
  unfold within brk
  split <;> simp
theorem ftxt_len : ∀ {n : Nd}, Valid n → (ftxt n).length ≤ 100 * n.size
  | .num f k n, h => by
    have h1 := field_len f
    have h2 := ask_len k
    have h3 := status_len (n.toNat - 1)
    have h4 := itoa_len h.2.2
    show (numT f k n).length ≤ 100
    unfold numT
    split <;> (simp only [List.length_append, List.length_cons]; omega)
  | .idt k s, h => by
    have h2 := ask_len k
    have h3 := h.2.1
    show (idtT k s).length ≤ 100
    unfold idtT
    simp only [List.length_append, List.length_cons, List.length_nil]
    omega
  | .not n, h => by
    have i := ftxt_len (n := n) h
    have l := within_len 2 n (ftxt n)
    show (sNot ++ within 2 n (ftxt n)).length ≤ 100 * (n.size + 1)
    rw [List.length_append]
    have : sNot.length = 4 := rfl
    omega
  | .all a b, h => by
    have i := ftxt_len (n := a) h.1
    have j := ftxt_len (n := b) h.2
    have l := within_len 1 a (ftxt a)
    have m := within_len 1 b (ftxt b)
    show (within 1 a (ftxt a) ++ sAnd ++ within 1 b (ftxt b)).length ≤ 100 * (a.size + b.size + 1)
    rw [List.length_append, List.length_append]
    have : sAnd.length = 5 := rfl
    omega
  | .any a b, h => by
    have i := ftxt_len (n := a) h.1
    have j := ftxt_len (n := b) h.2
    show (ftxt a ++ sOr ++ ftxt b).length ≤ 100 * (a.size + b.size + 1)
    rw [List.length_append, List.length_append]
    have : sOr.length = 4 := rfl
    omega
theorem parse_size {s : List UInt8} {n : Nd} (h : ParseP s (.ok (some n))) : n.size ≤ 512 := by
  cases h with
  | ok h hb he hr hp =>
    have h1 := reads_size hr rfl
    have h2 := (reads_le hr rfl (Nat.zero_le _) hb).1
    simp only [NT.acc] at h1
    omega
end Go.Proofs.YtkblkdnihppmnaaGreatDoor.Filt
