/- The walk of the statement WalCuts. -/
import Derived.Test.YteplpgknnlehnaaWalBack
import Derived.Test.YteplpgknnlehnaaWalReplays0
namespace Go.Proofs.Yteplpgknnlehnaa
set_option linter.unusedSimpArgs false
set_option linter.unusedVariables false
open Go.RowKit

theorem takeFrame_nil : (takeFrame []).2.2 ≠ 0 := by simp [takeFrame]
theorem Row.take_ {α : Type} {f : α → List Value} {w : World} {lo hi sz : Nat} {A : Option Addr} {l : List α} (h : Row w lo hi sz A l.length (l.flatMap f)) (hf : ∀ x, (f x).length = sz) {k : Nat} (hk : k ≤ l.length) : Row w lo hi sz A (l.take k).length ((l.take k).flatMap f) := by
  refine ⟨length_flatMap' hf _, fun hn => ?_⟩
  rw [List.length_take] at hn
  obtain ⟨b, off, e, h1, h2, hc⟩ := h.mem (by omega)
  refine ⟨b, off, e, h1, h2, fun j u hu => hc j u ?_⟩
  have h3 : l.flatMap f = (l.take k).flatMap f ++ (l.drop k).flatMap f := by rw [← List.flatMap_append, List.take_append_drop]
  rw [h3, List.getElem?_append_left (List.getElem?_eq_some_iff.1 hu).1]
  exact hu
theorem BatsR.take {w : World} {A : Option Addr} {L : List LB} (h : BatsR w A L) {k : Nat} (hk : k ≤ L.length) : BatsR w A (L.take k) := ⟨h.1.take_ LB.cells_len hk, fun q hq => h.2 q (List.mem_of_mem_take hq)⟩
theorem Own.cap {α : Type} {w : World} {base : Nat} {e : TypeId} {f : α → List Value} {sz : Nat} {A : Option Addr} {c : Nat} {l : List α} (h : Own w base e f sz A c l) : l.length ≤ c := by
  rcases h.2 with ⟨h0, h1⟩ | ⟨g, cap, cur, hv, _, _, h1, _⟩
  · omega
  · injection hv with _ _ h3
    omega
theorem Own.nil_or {α : Type} {w : World} {base : Nat} {e : TypeId} {f : α → List Value} {sz : Nat} {A : Option Addr} {c : Nat} {l : List α} (h : Own w base e f sz A c l) : (A = none ∧ c = 0) ∨ ∃ g, A = some ⟨g, 0, none⟩ := by
  rcases h.2 with ⟨h0, h1⟩ | ⟨g, cap, cur, hv, _, _, h1, _⟩
  · injection h0 with a b c
    exact .inl ⟨a, c⟩
  · injection hv with a
    exact .inr ⟨g, a⟩

def bytesOf (K : List LB) : List UInt8 := (K.map LB.b).flatMap enc
theorem bytesOf_snoc (K : List LB) (q : LB) : bytesOf (K ++ [q]) = bytesOf K ++ enc q.b := by simp [bytesOf]
/-- how far a cut reaches -/
structure CutAt (cut : Int) (K : List LB) (whole en : Nat) : Prop where
  le : whole ≤ K.length
  eq_ : en = (bytesOf (K.take whole)).length
  in_ : whole = 0 ∨ (en : Int) ≤ cut
  out : whole < K.length → cut < ((bytesOf (K.take (whole + 1))).length : Int)
theorem CutAt.start (cut : Int) : CutAt cut [] 0 0 := ⟨by simp, by simp [bytesOf], .inl rfl, by simp⟩
theorem CutAt.yes {cut : Int} {K : List LB} {q : LB} (h : ((bytesOf (K ++ [q])).length : Int) ≤ cut) : CutAt cut (K ++ [q]) (K.length + 1) (bytesOf (K ++ [q])).length :=
  ⟨by simp, by rw [List.take_of_length_le (by simp)], .inr h, by simp⟩
theorem CutAt.no {cut : Int} {K : List LB} {q : LB} {whole en : Nat} (hc : CutAt cut K whole en) (h : cut < ((bytesOf (K ++ [q])).length : Int)) : CutAt cut (K ++ [q]) whole en := by
  have hl := hc.le
  refine ⟨by simp; omega, ?_, hc.in_, fun hlt => ?_⟩
  · rw [List.take_append_of_le_length hl]; exact hc.eq_
  · rcases Nat.lt_or_ge whole K.length with h1 | h1
    · rw [List.take_append_of_le_length (by omega)]; exact hc.out h1
    · rw [List.take_of_length_le (by simp; omega)]; exact h
/-- the cut as a number -/
def cutN (cut : Int) (n : Nat) : Nat := (min (max cut 0) (n : Int)).toNat
theorem cutN_le (cut : Int) (n : Nat) : cutN cut n ≤ n := by unfold cutN; omega
theorem cutN_eq (cut : Int) (n : Nat) : min (max cut 0) (n : Int) = (cutN cut n : Int) := by unfold cutN; omega
/-- what a cut leaves -/
theorem CutAt.split {cut : Int} {K : List LB} {whole en : Nat} (h : CutAt cut K whole en) (hR : ∀ q ∈ K, q.b.Right) : ∃ rest, (bytesOf K).take (cutN cut (bytesOf K).length) = bytesOf (K.take whole) ++ rest ∧ (takeFrame rest).2.2 ≠ 0 := by
  have hk : bytesOf K = bytesOf (K.take whole) ++ bytesOf (K.drop whole) := by rw [bytesOf, bytesOf, bytesOf, ← List.flatMap_append, ← List.map_append, List.take_append_drop]
  have hen := h.eq_
  have hcn : en ≤ cutN cut (bytesOf K).length := by
    have h1 : en ≤ (bytesOf K).length := by rw [hk, List.length_append]; omega
    rcases h.in_ with h2 | h2
    · rw [hen, h2]; simp [bytesOf]
    · unfold cutN; omega
  rcases Nat.lt_or_ge whole K.length with h1 | h1
  · have h2 := h.out h1
    obtain ⟨q, hq⟩ : ∃ q, K[whole]? = some q := ⟨K[whole], List.getElem?_eq_getElem h1⟩
    have h3 : K.take (whole + 1) = K.take whole ++ [q] := by rw [List.take_add_one, hq]; rfl
    have h4 : K.drop whole = q :: K.drop (whole + 1) := by
      rw [List.drop_eq_getElem_cons h1]
      rw [List.getElem?_eq_getElem h1] at hq
      cases hq
      rfl
    have hq' := hR q (List.mem_of_getElem? hq)
    rw [h3, bytesOf_snoc, List.length_append] at h2
    have h5 : bytesOf K = bytesOf (K.take whole) ++ (enc q.b ++ bytesOf (K.drop (whole + 1))) := by rw [hk, h4]; simp [bytesOf]
    have h6 : cutN cut (bytesOf K).length < en + (enc q.b).length := by
      have := (enc_len hq').1
      unfold cutN
      omega
    refine ⟨(enc q.b).take (cutN cut (bytesOf K).length - en), ?_, takeFrame_cut (loadBytes_len hq') (by show _ < (enc q.b).length; omega)⟩
    conv => lhs; arg 2; rw [h5]
    rw [List.take_append, List.take_of_length_le (by omega), ← hen, List.take_append_of_le_length (by omega)]
  · refine ⟨[], ?_, takeFrame_nil⟩
    have h7 : K.take whole = K := List.take_of_length_le h1
    rw [h7] at hen
    rw [h7, List.append_nil, List.take_of_length_le (by omega)]
end Go.Proofs.Yteplpgknnlehnaa
