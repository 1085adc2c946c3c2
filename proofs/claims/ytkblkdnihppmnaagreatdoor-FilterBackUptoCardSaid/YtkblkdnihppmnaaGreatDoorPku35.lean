/- Parts of this work, one behind the other: FiltYe, Fcard, FiltUc. -/
import Derived.Test.YtkblkdnihppmnaaGreatDoorPku15
import Derived.Test.YtkblkdnihppmnaaGreatDoorPku14
import Derived.Test.YtkblkdnihppmnaaGreatDoorPku31
import Derived.Test.YtkblkdnihppmnaaGreatDoorPku5
import Derived.Test.YtkblkdnihppmnaaGreatDoorPku1
import Derived.Test.YtkblkdnihppmnaaGreatDoorPku33
/- Filters (layer 21): what a part holds of (walk, sixth part): every part. -/
namespace Go.Proofs.YtkblkdnihppmnaaGreatDoor
set_option linter.unusedSimpArgs false
set_option linter.unusedVariables false
open Go.RowKit Res Filt

/-- a run as it is told -/
structure Abt where
  (a0 a1 a2 a4 a5 a6 a7 a8 a9 a10 a11 a12 a13 a14 a15 a16 : Int)
  id : List UInt8
def Abt.vals (a : Abt) : List Int := fieldVals a.a0 a.a1 a.a2 a.a4 a.a5 a.a6 a.a7 a.a8 a.a12 a.a13 a.a14 a.a15 a.a16
def Abt.cells (a : Abt) : List Value := [fi a.a0, fi a.a1, fi a.a2, str a.id, fi a.a4, fi a.a5, fi a.a6, fi a.a7, fi a.a8, fi a.a9, fi a.a10, fi a.a11, fi a.a12, fi a.a13, fi a.a14, fi a.a15, fi a.a16]
def numB (a : Abt) (f k : Nat) (n : Int) : Bool := cmpAsk k (ordOf (a.vals.getD f 0) n)
def idtB (a : Abt) (k : Nat) (t : List UInt8) : Bool := cmpAsk k (Lib.compareBytes a.id t)
theorem holds_node (a : Abt) : ∀ n : Nd, Valid n → HoldsIs (numB a) (idtB a) a.cells n
  | .num f k n, h => fun w hN => by
    have hl : f < a.vals.length := h.1
    have hv : a.vals[f]? = some (a.vals.getD f 0) := by rw [List.getD_eq_getElem?_getD, List.getElem?_eq_getElem hl]; rfl
    exact number_calls f k h.1 h.2.1 n (a.vals.getD f 0) a.a0 a.a1 a.a2 a.a4 a.a5 a.a6 a.a7 a.a8 a.a9 a.a10 a.a11 a.a12 a.a13 a.a14 a.a15 a.a16 a.id hv w hN
  | .idt k t, h => fun w _ => named_calls k h.1 t a.id _ _ _ _ _ _ _ _ _ _ _ _ _ _ _ _ w
  | .not n, h => not_holds _ _ _ _ _ _ _ _ _ _ _ _ _ _ _ _ _ _ _ n (holds_node a n h)
  | .all n m, h => all_holds _ _ _ _ _ _ _ _ _ _ _ _ _ _ _ _ _ _ _ n m (holds_node a n h.1) (holds_node a m h.2)
  | .any n m, h => any_holds _ _ _ _ _ _ _ _ _ _ _ _ _ _ _ _ _ _ _ n m (holds_node a n h.1) (holds_node a m h.2)
end Go.Proofs.YtkblkdnihppmnaaGreatDoor
/- Filters (layer 21): a run as an argument; the program's variables lie lowest. -/
namespace Go.Proofs.YtkblkdnihppmnaaGreatDoor
set_option linter.unusedSimpArgs false
set_option linter.unusedVariables false
open Go.RowKit Go.Deep

theorem shaped_glob {W : World} (h : W.ShapedOpen Tryz.prog) : Tryz.prog.globals.size ≤ W.heap.size := by
  obtain ⟨o, o0, h1, -⟩ := h.2 Tryz.prog.globals.size (Nat.le_refl _) (of_decide_eq_true (by kernel_rfl))
  exact Nat.le_of_lt (Array.getElem?_eq_some_iff.1 h1).1
theorem list17 {α : Type} {xs : List α} (h : xs.length = 17) : ∃ a b c d e f g i j k l m n o p q r, xs = [a, b, c, d, e, f, g, i, j, k, l, m, n, o, p, q, r] := by
  match xs, h with
  | [a, b, c, d, e, f, g, i, j, k, l, m, n, o, p, q, r], _ => exact ⟨a, b, c, d, e, f, g, i, j, k, l, m, n, o, p, q, r, rfl⟩
theorem about_under : Tryz.prog.underlying 33 = some (.struct (Tryz.prog.fieldsOf 33)) := by kernel_rfl
theorem read_about {H : Type} {enc : TypeId × Value → H} {w : World} {base : Nat} {spare : Nat → Bool} {held : Bool} {fuel : Nat} {cs : List Value} {x : DataW H × List MemPlace} (h : DataW.trod enc Tryz.prog w base spare held fuel 33 cs = some x) :
    ∃ a : Abt, cs = a.cells := by
  have hl := fld_len about_under h
  rw [show Tryz.prog.cellsOf 33 = 17 by kernel_rfl] at hl
  obtain ⟨c0, c1, c2, c3, c4, c5, c6, c7, c8, c9, c10, c11, c12, c13, c14, c15, c16, rfl⟩ := list17 hl
  obtain ⟨n0, rfl⟩ := fld_int about_under h 0 0 (by kernel_rfl) (by kernel_rfl) (by kernel_rfl) (by kernel_rfl) rfl
  obtain ⟨n1, rfl⟩ := fld_int about_under h 1 1 (by kernel_rfl) (by kernel_rfl) (by kernel_rfl) (by kernel_rfl) rfl
  obtain ⟨n2, rfl⟩ := fld_int about_under h 2 2 (by kernel_rfl) (by kernel_rfl) (by kernel_rfl) (by kernel_rfl) rfl
  obtain ⟨n3, rfl⟩ := fld_str about_under h 3 3 (by kernel_rfl) (by kernel_rfl) (by kernel_rfl) (by kernel_rfl) rfl
  obtain ⟨n4, rfl⟩ := fld_int about_under h 4 4 (by kernel_rfl) (by kernel_rfl) (by kernel_rfl) (by kernel_rfl) rfl
  obtain ⟨n5, rfl⟩ := fld_int about_under h 5 5 (by kernel_rfl) (by kernel_rfl) (by kernel_rfl) (by kernel_rfl) rfl
  obtain ⟨n6, rfl⟩ := fld_int about_under h 6 6 (by kernel_rfl) (by kernel_rfl) (by kernel_rfl) (by kernel_rfl) rfl
  obtain ⟨n7, rfl⟩ := fld_int about_under h 7 7 (by kernel_rfl) (by kernel_rfl) (by kernel_rfl) (by kernel_rfl) rfl
  obtain ⟨n8, rfl⟩ := fld_int about_under h 8 8 (by kernel_rfl) (by kernel_rfl) (by kernel_rfl) (by kernel_rfl) rfl
  obtain ⟨n9, rfl⟩ := fld_int about_under h 9 9 (by kernel_rfl) (by kernel_rfl) (by kernel_rfl) (by kernel_rfl) rfl
  obtain ⟨n10, rfl⟩ := fld_int about_under h 10 10 (by kernel_rfl) (by kernel_rfl) (by kernel_rfl) (by kernel_rfl) rfl
  obtain ⟨n11, rfl⟩ := fld_int about_under h 11 11 (by kernel_rfl) (by kernel_rfl) (by kernel_rfl) (by kernel_rfl) rfl
  obtain ⟨n12, rfl⟩ := fld_int about_under h 12 12 (by kernel_rfl) (by kernel_rfl) (by kernel_rfl) (by kernel_rfl) rfl
  obtain ⟨n13, rfl⟩ := fld_ints (n := 4) (e := 2) about_under h 13 13 (by kernel_rfl) (by kernel_rfl) (by kernel_rfl) (by kernel_rfl) (by kernel_rfl) (by kernel_rfl) 0 (by omega) rfl
  obtain ⟨n14, rfl⟩ := fld_ints (n := 4) (e := 2) about_under h 13 13 (by kernel_rfl) (by kernel_rfl) (by kernel_rfl) (by kernel_rfl) (by kernel_rfl) (by kernel_rfl) 1 (by omega) rfl
  obtain ⟨n15, rfl⟩ := fld_ints (n := 4) (e := 2) about_under h 13 13 (by kernel_rfl) (by kernel_rfl) (by kernel_rfl) (by kernel_rfl) (by kernel_rfl) (by kernel_rfl) 2 (by omega) rfl
  obtain ⟨n16, rfl⟩ := fld_ints (n := 4) (e := 2) about_under h 13 13 (by kernel_rfl) (by kernel_rfl) (by kernel_rfl) (by kernel_rfl) (by kernel_rfl) (by kernel_rfl) 3 (by omega) rfl
  exact ⟨⟨n0, n1, n2, n4, n5, n6, n7, n8, n9, n10, n11, n12, n13, n14, n15, n16, n3⟩, rfl⟩
end Go.Proofs.YtkblkdnihppmnaaGreatDoor
/- Filters (layer 21): the program's parser (walk, seventh part): test and the whole parser. -/
namespace Go.Proofs.YtkblkdnihppmnaaGreatDoor
set_option linter.unusedSimpArgs false
set_option linter.unusedVariables false
open Go.RowKit Res Filt

theorem digits_num {s : List UInt8} {p : Nat} (h : (lex s p).kind = .digits) : ∃ v, Filt.numOf (textOf s (lex s p)) = some v := by
  rw [take_lex]
  have h : (lexRest (s.drop (startOf s p))).1 = .digits := h
  generalize s.drop (startOf s p) = l at h
  cases l with
  | nil => cases h
  | cons c r =>
    have h : (lexCons c r).1 = .digits := h
    show ∃ v, Filt.numOf ((c :: r).take (lexCons c r).2) = some v
    unfold lexCons at h ⊢
    split at h
    · cases h
    rename_i h1
    rw [if_neg h1]
    split at h
    · rename_i h2
      rw [if_pos h2]
      split at h
      · rename_i h3
        rw [List.take_succ_cons]
        exact Option.isSome_iff_exists.1 h3
      · cases h
    rename_i h2
    rw [if_neg h2]
    split at h
    · split at h <;> cases h
    · (repeat' split at h) <;> cases h
theorem num_place {x : List UInt8} (h : placeOf fieldNums x < 0) : ¬ fieldNums.idxOf x < 13 := by
  intro h1
  unfold placeOf at h
  rw [if_pos (show fieldNums.idxOf x < fieldNums.length from h1)] at h
  omega
theorem place_num {x : List UInt8} (h : 0 ≤ placeOf fieldNums x) : fieldNums.idxOf x < 13 := by
  unfold placeOf at h
  split at h
  · assumption
  · omega
theorem test_at (s : List UInt8) (hs : s.length ≤ 1048576) : TestAt s := by
  intro S g p d w0 w hp hb M hN hS
  have K : TestC s S g d w0 := ⟨fun p w hp hb M => next_rp s hs hp hb M hN hS, fun p w M => fail_rp M, fun p w M => hN.mem hS M⟩
  by_cases h0 : (lex s p).kind = .word
  rotate_left
  · exact test_kind s hs S g d w0 K p w hp hb M h0
  have hask : ∀ {q}, isAsk s q → askNames.getD (askOf s q) [] = textOf s (lex s q) := fun h => idx_lt h.2
  have hkn : ∀ {q}, (lex s q).kind = .mark → isAsk s q ∨ textOf s (lex s q) = [40] ∨ textOf s (lex s q) = [41] := fun {q} h => by
    rcases mark_text h with h1 | h1 | h1
    · exact .inr (.inl h1)
    · exact .inr (.inr h1)
    · exact .inl ⟨h, h1⟩
  have ho : ∀ {q}, isAsk s q → textOf s (lex s q) ≠ [40] := fun h e => by have := h.2; unfold askOf at this; rw [e] at this; revert this; decide
  have hc : ∀ {q}, isAsk s q → textOf s (lex s q) ≠ [41] := fun h e => by have := h.2; unfold askOf at this; rw [e] at this; revert this; decide
  have hbad : ∀ {q}, (lex s q).kind = .bad → isBad s q := fun h => h
  by_cases hi : textOf s (lex s p) = [105, 100]
  · have hfo : fieldOf s p = 13 := by unfold fieldOf; rw [hi]; exact field_id
    have hf : isField s p := ⟨h0, by rw [hfo]; omega⟩
    by_cases hb1 : (lex s (lex s p).next).kind = .bad
    · exact test_id_bad1 s hs S g d w0 K p w hp hb M h0 hi hf hb1
    by_cases h1 : (lex s (lex s p).next).kind = .mark
    rotate_left
    · exact test_id_noMark s hs S g d w0 K p w hp hb M h0 hi hf hb1 h1 (fun h => h1 h.1)
    by_cases hk : isAsk s (lex s p).next
    rotate_left
    · rcases hkn h1 with h | h | h
      · exact absurd h hk
      · exact test_id_open s hs S g d w0 K p w hp hb M h0 hi hf h1 h hk
      · exact test_id_close s hs S g d w0 K p w hp hb M h0 hi hf h1 h hk
    by_cases hb2 : (lex s (lex s (lex s p).next).next).kind = .bad
    · exact test_id_bad2 s hs S g d w0 K p w hp hb M h0 hi hf h1 (ho hk) (hc hk) hk (hask hk) hb2
    by_cases h2 : (lex s (lex s (lex s p).next).next).kind = .quoted
    · obtain ⟨l, ht2, hl, h64⟩ := quoted_text h2
      refine test_id_quoted s hs S g d w0 K p w hp hb M h0 hi hf h1 (ho hk) (hc hk) hk (hask hk) l h2 ht2 hl h64 ?_
      unfold testVal
      rw [if_pos ⟨hfo, h2⟩, ht2]
      simp
    · refine test_id_none s hs S g d w0 K p w hp hb M h0 hi hf h1 (ho hk) (hc hk) hk (hask hk) hb2 h2 ?_
      unfold testVal
      rw [if_neg (fun h => h2 h.2), if_neg (fun h => h.1 hfo), if_neg (fun h => by rw [hfo] at h; exact absurd h.1 (by decide))]
  · obtain ⟨v0, hv0⟩ : ∃ v0, placeOf fieldNums (textOf s (lex s p)) = v0 := ⟨_, rfl⟩
    by_cases hneg : v0 < 0
    · exact test_name s hs S g d w0 K p w hp hb M h0 hi v0 hv0 hneg (fun h => field_no (num_place (by rw [hv0]; exact hneg)) hi h.2)
    have hpos : 0 ≤ v0 := by omega
    have hlt := place_num (by rw [hv0]; exact hpos)
    have hfo : fieldOf s p < 13 := by unfold fieldOf; rw [(field_num hlt).1]; exact hlt
    have hf : isField s p := ⟨h0, by omega⟩
    have hfd : fieldNames.getD (fieldOf s p) [] = textOf s (lex s p) := idx_lt hf.2
    by_cases hb1 : (lex s (lex s p).next).kind = .bad
    · exact test_num_bad1 s hs S g d w0 K p w hp hb M h0 hi v0 hv0 hpos hf hb1
    by_cases h1 : (lex s (lex s p).next).kind = .mark
    rotate_left
    · exact test_num_noMark s hs S g d w0 K p w hp hb M h0 hi v0 hv0 hpos hf hb1 h1 (fun h => h1 h.1)
    by_cases hk : isAsk s (lex s p).next
    rotate_left
    · rcases hkn h1 with h | h | h
      · exact absurd h hk
      · exact test_num_open s hs S g d w0 K p w hp hb M h0 hi v0 hv0 hpos hf h1 h hk
      · exact test_num_close s hs S g d w0 K p w hp hb M h0 hi v0 hv0 hpos hf h1 h hk
    by_cases hb2 : (lex s (lex s (lex s p).next).next).kind = .bad
    · exact test_num_bad2 s hs S g d w0 K p w hp hb M h0 hi v0 hv0 hpos hf h1 (ho hk) (hc hk) hk (hask hk) hb2
    by_cases h2 : (lex s (lex s (lex s p).next).next).kind = .digits
    · obtain ⟨v, hv⟩ := digits_num h2
      refine test_num_digits s hs S g d w0 K p w hp hb M h0 hi v0 hv0 hpos hf h1 (ho hk) (hc hk) hk (hask hk) v h2 hv hfd ?_
      unfold testVal
      rw [if_neg (fun h => by omega), if_pos ⟨by omega, h2⟩, hv]
      rfl
    by_cases hst : textOf s (lex s p) = [115, 116, 97, 116, 117, 115]
    rotate_left
    · refine test_num_none s hs S g d w0 K p w hp hb M h0 hi v0 hv0 hpos hf h1 (ho hk) (hc hk) hk (hask hk) hb2 h2 hst ?_
      unfold testVal
      rw [if_neg (fun h => by omega), if_neg (fun h => h2 h.2), if_neg (fun h => hst (field_is_status h.1))]
    have hf2 : fieldOf s p = 2 := by unfold fieldOf; rw [hst]; exact field_status
    by_cases h3 : (lex s (lex s (lex s p).next).next).kind = .word
    rotate_left
    · refine test_status_kind s hs S g d w0 K p w hp hb M h0 hst v0 hv0 hpos hf h1 (ho hk) (hc hk) hk (hask hk) hb2 h2 h3 ?_
      unfold testVal
      rw [if_neg (fun h => by omega), if_neg (fun h => h2 h.2), if_neg (fun h => h3 h.2.1)]
    obtain ⟨v2, hv2⟩ : ∃ v2, placeOf statusNames (textOf s (lex s (lex s (lex s p).next).next)) = v2 := ⟨_, rfl⟩
    by_cases hidx : statusNames.idxOf (textOf s (lex s (lex s (lex s p).next).next)) < 7
    · have hv2' : v2 = statusNames.idxOf (textOf s (lex s (lex s (lex s p).next).next)) := by rw [← hv2]; unfold placeOf; rw [if_pos (show _ < statusNames.length from hidx)]
      refine test_status_ok s hs S g d w0 K p w hp hb M h0 hst v0 hv0 hpos hf h1 (ho hk) (hc hk) hk (hask hk) v2 hv2 (by omega) (by omega) h3 hfd ?_
      unfold testVal
      rw [if_neg (fun h => by omega), if_neg (fun h => h2 h.2), if_pos ⟨hf2, h3, hidx⟩, hv2']
    · have hv2' : v2 = -1 := by rw [← hv2]; unfold placeOf; rw [if_neg (show ¬ _ < statusNames.length from hidx)]
      refine test_status_no s hs S g d w0 K p w hp hb M h0 hst v0 hv0 hpos hf h1 (ho hk) (hc hk) hk (hask hk) v2 hv2 (by omega) h3 ?_
      unfold testVal
      rw [if_neg (fun h => by omega), if_neg (fun h => h2 h.2), if_neg (fun h => hidx h.2.2)]
theorem parser_any (s : List UInt8) (hs : s.length ≤ 1048576) : At 17 .any s 0 := (parser_at s hs (test_at s hs) 32 0 rfl).2
end Go.Proofs.YtkblkdnihppmnaaGreatDoor
