/- Parts of this work, one behind the other: Ro, Rfd, Rfe, FiltUc. -/
import Derived.Test.YtkblkdnihppmnaaGreatDoorPkv17
import Derived.Test.YtkblkdnihppmnaaGreatDoorPkv18
import Derived.Test.YtkblkdnihppmnaaGreatDoorPkv19
import Derived.Test.YtkblkdnihppmnaaGreatDoorPkv20
import Derived.Test.YtkblkdnihppmnaaGreatDoorPkv21
import Derived.Test.YtkblkdnihppmnaaGreatDoorPkv22
import Derived.Test.YtkblkdnihppmnaaGreatDoorPkv23
import Derived.Test.YtkblkdnihppmnaaGreatDoorPkv24
import Derived.Test.YtkblkdnihppmnaaGreatDoorPkv0
import Derived.Test.YtkblkdnihppmnaaGreatDoorPkv25
/- Filters (layer 21): the document's next, as the chapter's token tells. -/
namespace Go.Proofs.YtkblkdnihppmnaaGreatDoor
set_option linter.unusedSimpArgs false
set_option linter.unusedVariables false
open Go.RowKit Res Filt

/-- the document's token at p, as cells -/
def tkC (s : List UInt8) (p : Nat) : List Value := [fi (kindN (lex s p).kind), fi ((lex s p).at_ : Nat), fi ((lex s p).next : Nat), str (textOf s (lex s p))]
theorem ref_next (s : List UInt8) (hs : s.length ≤ 1048576) (g p : Nat) (hp : p ≤ s.length) (w : World) (h0 : w.cell? ⟨g, 0, none⟩ = some (str s)) (h1 : w.cell? ⟨g, 1, none⟩ = some (fi (p : Int))) :
    Calls Tryz.prog 19 #[.pointer (some ⟨g, 0, none⟩)] w fun e w' => e = .returned (.agg (tkC s p).toArray) ∧ Ext w w' := by
  have hi : startOf s p ≤ s.length := start_le hp
  obtain ⟨i, hie⟩ : ∃ i, startOf s p = i := ⟨_, rfl⟩
  have ok : ∀ {k : TK} {j : Nat} {tx : List UInt8}, lex s p = ⟨k, i, j⟩ → tx = (s.drop i).take (j - i) → Calls Tryz.prog 19 #[.pointer (some ⟨g, 0, none⟩)] w (fun e w' => e = .returned (.agg #[fi (kindN k), fi (i : Int), fi (j : Int), str tx]) ∧ Ext w w') → Calls Tryz.prog 19 #[.pointer (some ⟨g, 0, none⟩)] w (fun e w' => e = .returned (.agg (tkC s p).toArray) ∧ Ext w w') := by
    intro k j tx hl htx h
    unfold tkC textOf
    rw [hl]
    subst htx
    exact h
  rcases Nat.lt_or_ge i s.length with hlt | hge
  · obtain ⟨c, hc⟩ : ∃ c, s[i]? = some c := ⟨_, List.getElem?_eq_getElem hlt⟩
    have hL := lex_of (p := p) (by rw [hie]; exact hc)
    rw [hie] at hL
    have hr : (s.drop (i + 1)).length = s.length - (i + 1) := List.length_drop
    by_cases h1' : isSmall c = true
    · have e : lexCons c (s.drop (i + 1)) = (.word, runLen isAln (s.drop (i + 1)) + 1) := if_pos h1'
      rw [e] at hL
      exact ok hL rfl (rnext_word s hs g p hp w h0 h1 i hie c hc h1' (i + (runLen isAln (s.drop (i + 1)) + 1)) (by omega))
    have hn1 : ¬ isSmall c = true := h1'
    have h1' : isSmall c = false := by simpa using h1'
    by_cases h2 : (isDigit c || c.toNat == 45) = true
    · have e : lexCons c (s.drop (i + 1)) = (if (numOf (c :: (s.drop (i + 1)).take (runLen isDigit (s.drop (i + 1))))).isSome then .digits else .bad, runLen isDigit (s.drop (i + 1)) + 1) := by
        unfold lexCons
        rw [if_neg hn1, if_pos h2]
      rw [e] at hL
      obtain ⟨n, hn⟩ : ∃ n, runLen isDigit (s.drop (i + 1)) = n := ⟨_, rfl⟩
      have hj : i + 1 + runLen isDigit (s.drop (i + 1)) = i + (n + 1) := by rw [hn]; omega
      have etx : c :: (s.drop (i + 1)).take n = (s.drop i).take (i + (n + 1) - i) := by
        rw [drop_cons hc, show i + (n + 1) - i = n + 1 by omega]
        rfl
      rw [hn, etx] at hL
      have hdig : isDigit c = true ∨ (isDigit c = false ∧ c.toNat = 45) := by
        cases hd : isDigit c
        · rw [hd] at h2; exact .inr ⟨rfl, by simpa using h2⟩
        · exact .inl rfl
      cases hb : (numOf ((s.drop i).take (i + (n + 1) - i))).isSome with
      | true =>
        rw [hb, if_pos rfl] at hL
        rcases hdig with hd | ⟨hd, h45⟩
        · exact ok hL rfl (rnext_digit_ok s hs g p hp w h0 h1 i hie c hc h1' hd _ hj hb)
        · exact ok hL rfl (rnext_minus_ok s hs g p hp w h0 h1 i hie c hc h1' hd h45 _ hj hb)
      | false =>
        rw [hb, if_neg (by simp)] at hL
        rcases hdig with hd | ⟨hd, h45⟩
        · exact ok hL rfl (rnext_digit_bad s hs g p hp w h0 h1 i hie c hc h1' hd _ hj hb)
        · exact ok hL rfl (rnext_minus_bad s hs g p hp w h0 h1 i hie c hc h1' hd h45 _ hj hb)
    have h2a : isDigit c = false := by
      cases hd : isDigit c
      · rfl
      · rw [hd] at h2; exact (h2 rfl).elim
    have h45 : c.toNat ≠ 45 := by
      intro h
      rw [h] at h2
      simp at h2
    by_cases h3 : c.toNat = 34
    · have e : lexCons c (s.drop (i + 1)) = (if runLen notQuote (s.drop (i + 1)) < (s.drop (i + 1)).length ∧ runLen notQuote (s.drop (i + 1)) ≤ 64 then (.quoted, runLen notQuote (s.drop (i + 1)) + 2) else (.bad, 0)) := by
        unfold lexCons
        rw [if_neg hn1, if_neg h2, if_pos h3]
      rw [e] at hL
      obtain ⟨n, hn⟩ : ∃ n, runLen notQuote (s.drop (i + 1)) = n := ⟨_, rfl⟩
      rw [hn] at hL
      have hj : i + 1 + runLen notQuote (s.drop (i + 1)) = i + 1 + n := by rw [hn]
      by_cases hnl : n < (s.drop (i + 1)).length
      · by_cases hn64 : n ≤ 64
        · rw [if_pos ⟨hnl, hn64⟩] at hL
          have := rnext_quoted s hs g p hp w h0 h1 i hie c hc h1' h2a h3 (i + 1 + n) hj (by omega) (by omega)
          rw [show i + 1 + n + 1 = i + (n + 2) by omega] at this
          exact ok hL rfl this
        · rw [if_neg (fun x => hn64 x.2)] at hL
          exact ok hL (by rw [Nat.add_zero, Nat.sub_self, List.take_zero]) (rnext_quoted_long s hs g p hp w h0 h1 i hie c hc h1' h2a h3 (i + 1 + n) hj (by omega) (by omega))
      · rw [if_neg (fun x => hnl x.1)] at hL
        exact ok hL (by rw [Nat.add_zero, Nat.sub_self, List.take_zero]) (rnext_quoted_none s hs g p hp w h0 h1 i hie c hc h1' h2a h3 (i + 1 + n) hj (by omega))
    by_cases h4 : c.toNat = 40 ∨ c.toNat = 41 ∨ c.toNat = 61
    · have e : lexCons c (s.drop (i + 1)) = (.mark, 1) := by
        unfold lexCons
        rw [if_neg hn1, if_neg h2, if_neg h3, if_pos h4]
      rw [e] at hL
      have lit : ∀ {v : UInt8}, c.toNat = v.toNat → s[i]? = some v := fun {v} h => by rw [hc, UInt8.toNat_inj.1 h]
      rcases h4 with h4 | h4 | h4
      · exact ok hL rfl (rnext_open s hs g p hp w h0 h1 i hie (lit h4))
      · exact ok hL rfl (rnext_close s hs g p hp w h0 h1 i hie (lit h4))
      · exact ok hL rfl (rnext_eq s hs g p hp w h0 h1 i hie (lit h4))
    by_cases h5 : c.toNat = 33 ∨ c.toNat = 60 ∨ c.toNat = 62
    · have e : lexCons c (s.drop (i + 1)) = (if (s.drop (i + 1)).head? = some 61 then (.mark, 2) else if c.toNat = 33 then (.bad, 1) else (.mark, 1)) := by
        unfold lexCons
        rw [if_neg hn1, if_neg h2, if_neg h3, if_neg h4, if_pos h5]
      have lit : ∀ {v : UInt8}, c.toNat = v.toNat → s[i]? = some v := fun {v} h => by rw [hc, UInt8.toNat_inj.1 h]
      rw [e, List.head?_drop] at hL
      rcases Nat.lt_or_ge (i + 1) s.length with hl2 | hl2
      · obtain ⟨c2, hc2⟩ : ∃ c2, s[i + 1]? = some c2 := ⟨_, List.getElem?_eq_getElem hl2⟩
        rw [hc2] at hL
        by_cases h61 : c2.toNat = 61
        · have e61 : c2 = 61 := UInt8.toNat_inj.1 h61
          rw [if_pos (by rw [e61])] at hL
          rcases h5 with h5 | h5 | h5
          · exact ok hL rfl (rnext_no_eq s hs g p hp w h0 h1 i hie (lit h5) (by rw [hc2, e61]))
          · exact ok hL rfl (rnext_lt_eq s hs g p hp w h0 h1 i hie (lit h5) (by rw [hc2, e61]))
          · exact ok hL rfl (rnext_gt_eq s hs g p hp w h0 h1 i hie (lit h5) (by rw [hc2, e61]))
        · rw [if_neg (by intro x; apply h61; have : c2 = 61 := by simpa using x
                         rw [this]; rfl)] at hL
          rcases h5 with h5 | h5 | h5
          · rw [if_pos h5] at hL
            exact ok hL rfl (rnext_no_other s hs g p hp w h0 h1 i hie (lit h5) c2 hc2 h61)
          · rw [if_neg (by omega)] at hL
            exact ok hL rfl (rnext_lt_other s hs g p hp w h0 h1 i hie (lit h5) c2 hc2 h61)
          · rw [if_neg (by omega)] at hL
            exact ok hL rfl (rnext_gt_other s hs g p hp w h0 h1 i hie (lit h5) c2 hc2 h61)
      · rw [List.getElem?_eq_none hl2, if_neg (by simp)] at hL
        rcases h5 with h5 | h5 | h5
        · rw [if_pos h5] at hL
          exact ok hL rfl (rnext_no_end s hs g p hp w h0 h1 i hie (lit h5) hl2)
        · rw [if_neg (by omega)] at hL
          exact ok hL rfl (rnext_lt_end s hs g p hp w h0 h1 i hie (lit h5) hl2)
        · rw [if_neg (by omega)] at hL
          exact ok hL rfl (rnext_gt_end s hs g p hp w h0 h1 i hie (lit h5) hl2)
    · have e : lexCons c (s.drop (i + 1)) = (.bad, 1) := by
        unfold lexCons
        rw [if_neg hn1, if_neg h2, if_neg h3, if_neg h4, if_neg h5]
      rw [e] at hL
      exact ok hL rfl (rnext_none s hs g p hp w h0 h1 i hie c hc h1' h2a h45 h3 h4 h5)
  · have hL : lex s p = ⟨.ended, i, i⟩ := by
      unfold lex
      rw [hie, List.drop_eq_nil_of_le hge]
      rfl
    exact ok hL (by rw [Nat.sub_self, List.take_zero]) (rnext_ended s hs g p hp w h0 h1 i hie (by omega))
end Go.Proofs.YtkblkdnihppmnaaGreatDoor
/- Filters (layer 21): the document's reader (walk): what lies in memory; fails, takes. -/
namespace Go.Proofs.YtkblkdnihppmnaaGreatDoor
set_option linter.unusedSimpArgs false
set_option linter.unusedVariables false
open Go.RowKit Res Filt

/-- the document's node as cells -/
def fnV : FN → List Value
  | .num f k n => [fi 0, fi (f : Int), fi (k : Int), fi n, str []]
  | .idt k t => [fi 0, fi 13, fi (k : Int), fi 0, str t]
  | .not => [fi 1, fi 0, fi 0, fi 0, str []]
  | .all => [fi 2, fi 0, fi 0, fi 0, str []]
  | .any => [fi 3, fi 0, fi 0, fi 0, str []]
/-- the document's reader, and its nodes -/
abbrev rx (g : Nat) (s : List UInt8) (p : Int) (bad : Bool) (is_ : Int) (A : Option Addr) (n c : Nat) (d : Int) : Res := bx g 57 [str s, fi p, .bool bad, fi is_, .slice A n c, fi d]
abbrev ro (A : Option Addr) (c : Nat) (out : List FN) : Res := ow 63 fnV 5 A c out
set_option maxRecDepth 100000 in
set_option maxHeartbeats 800000 in
theorem fails_good {S : Nat → Prop} {w0 w : World} {gr : Nat} {s : List UInt8} {p is_ d : Int} {A : Option Addr} {n c : Nat} (a : Int) (M : Mem S w0 [rx gr s p false is_ A n c d] w) :
    Calls Tryz.prog 21 #[.pointer (some ⟨gr, 0, none⟩), fi a] w fun e w' => e = .returned (.tuple #[]) ∧ Mem S w0 [rx gr s p true a A n c d] w' := by
  go_enter Tryz.func21, Tryz.ntmps21
  (try dsimp only); (repeat (first | (first | ((with_reducible refine on_load ?_); (first | refine xl1 M ?_ | refine xlN M ?_); go_big_move) | ((with_reducible refine on_store ?_); (first | refine xs1 M ?_ | refine xsN M ?_); clear M; intro w' M; (try simp only [List.set_cons_zero, List.set_cons_succ] at M))) | go_values | go_skip | go_guarded | go_step | go_upon))
  exact ret_n0 rfl rfl ⟨rfl, M⟩
set_option maxRecDepth 100000 in
set_option maxHeartbeats 800000 in
theorem fails_bad {S : Nat → Prop} {w0 w : World} {gr : Nat} {s : List UInt8} {p is_ d : Int} {A : Option Addr} {n c : Nat} (a : Int) (M : Mem S w0 [rx gr s p true is_ A n c d] w) :
    Calls Tryz.prog 21 #[.pointer (some ⟨gr, 0, none⟩), fi a] w fun e w' => e = .returned (.tuple #[]) ∧ Mem S w0 [rx gr s p true is_ A n c d] w' := by
  go_enter Tryz.func21, Tryz.ntmps21
  (try dsimp only); (repeat (first | (first | ((with_reducible refine on_load ?_); (first | refine xl1 M ?_ | refine xlN M ?_); go_big_move) | ((with_reducible refine on_store ?_); (first | refine xs1 M ?_ | refine xsN M ?_); clear M; intro w' M; (try simp only [List.set_cons_zero, List.set_cons_succ] at M))) | go_values | go_skip | go_guarded | go_step | go_upon))
  exact ret_n0 rfl rfl ⟨rfl, M⟩
set_option maxRecDepth 100000 in
set_option maxHeartbeats 800000 in
theorem takes_bad (s : List UInt8) (hs : s.length ≤ 1048576) (x : List UInt8) (gr p : Nat) (hp : p ≤ s.length) (is_ d : Int) (A : Option Addr) (n c : Nat)  {S : Nat → Prop} {w0 w : World} (M : Mem S w0 [rx gr s p true is_ A n c d] w) :
    Calls Tryz.prog 43 #[.pointer (some ⟨gr, 0, none⟩), str x] w fun e w' => e = .returned (.bool false) ∧ Mem S w0 [rx gr s (p : Int) true is_ A n c d] w' := by
  have HN : Hid (∀ w', w'.cell? ⟨gr, 0, none⟩ = some (str s) → w'.cell? ⟨gr, 1, none⟩ = some (fi (p : Int)) → Calls Tryz.prog 19 #[.pointer (some ⟨gr, 0, none⟩)] w' fun e w'' => e = .returned (.agg #[fi (kindN (lex s p).kind), fi ((lex s p).at_ : Nat), fi ((lex s p).next : Nat), str (textOf s (lex s p))]) ∧ Ext w' w'') := Lib.hid (fun w' h0 h1 => ref_next s hs gr p hp w' h0 h1)
  skip
  generalize (lex s p).next = nx at *
  generalize textOf s (lex s p) = tx at *
  generalize kindN (lex s p).kind = k at *
  go_enter Tryz.func43, Tryz.ntmps43
  (try dsimp only); (repeat (first | (first | (go_at_call 19; (with_reducible refine (HN.out _ (M.at_ pk 0 _ rfl) (M.at_ pk 1 _ rfl)).mono ?_); rintro _ w1 ⟨rfl, hX⟩; replace M := M.ext hX; clear hX; dsimp only) | ((with_reducible refine wl_g ?_); first | go_big_want | go_skip | ((with_reducible refine wl_off (by kernel_rfl) ?_); (first | ((with_reducible refine fastK Tryz.prog rfl ?_); go_big_move) | (with_reducible refine fastN rfl ?_) | skip))) | ((with_reducible refine on_load ?_); (first | refine xl1 M ?_ | refine xlN M ?_); go_big_move) | ((with_reducible refine on_store ?_); (first | refine xs1 M ?_ | refine xsN M ?_); clear M; intro w' M; (try simp only [List.set_cons_zero, List.set_cons_succ] at M)) | ((with_reducible refine on_alloc ?_); refine xa M ?_; clear M; intro g w' M; go_big_move)) | go_values | go_skip | go_guarded | go_step | go_upon))
  exact ret_m1 rfl (Out.tmp rfl) rfl ⟨rfl, M.sub tk⟩
set_option maxRecDepth 100000 in
set_option maxHeartbeats 800000 in
theorem takes_word (s : List UInt8) (hs : s.length ≤ 1048576) (x : List UInt8) (gr p : Nat) (hp : p ≤ s.length) (is_ d : Int) (A : Option Addr) (n c : Nat) (h1 : (kindN (lex s p).kind != 1) = false) (h3 : (!(textOf s (lex s p) == x)) = false) {S : Nat → Prop} {w0 w : World} (M : Mem S w0 [rx gr s p false is_ A n c d] w) :
    Calls Tryz.prog 43 #[.pointer (some ⟨gr, 0, none⟩), str x] w fun e w' => e = .returned (.bool true) ∧ Mem S w0 [rx gr s ((lex s p).next : Nat) false is_ A n c d] w' := by
  have HN : Hid (∀ w', w'.cell? ⟨gr, 0, none⟩ = some (str s) → w'.cell? ⟨gr, 1, none⟩ = some (fi (p : Int)) → Calls Tryz.prog 19 #[.pointer (some ⟨gr, 0, none⟩)] w' fun e w'' => e = .returned (.agg #[fi (kindN (lex s p).kind), fi ((lex s p).at_ : Nat), fi ((lex s p).next : Nat), str (textOf s (lex s p))]) ∧ Ext w' w'') := Lib.hid (fun w' h0 h1 => ref_next s hs gr p hp w' h0 h1)
  skip
  generalize (lex s p).next = nx at *
  generalize textOf s (lex s p) = tx at *
  generalize kindN (lex s p).kind = k at *
  go_enter Tryz.func43, Tryz.ntmps43
  (try dsimp only); (repeat (first | (first | (go_at_call 19; (with_reducible refine (HN.out _ (M.at_ pk 0 _ rfl) (M.at_ pk 1 _ rfl)).mono ?_); rintro _ w1 ⟨rfl, hX⟩; replace M := M.ext hX; clear hX; dsimp only) | ((with_reducible refine wl_g ?_); first | go_big_want | go_skip | ((with_reducible refine wl_off (by kernel_rfl) ?_); (first | ((with_reducible refine fastK Tryz.prog rfl ?_); go_big_move) | (with_reducible refine fastN rfl ?_) | skip))) | ((with_reducible refine on_load ?_); (first | refine xl1 M ?_ | refine xlN M ?_); go_big_move) | ((with_reducible refine on_store ?_); (first | refine xs1 M ?_ | refine xsN M ?_); clear M; intro w' M; (try simp only [List.set_cons_zero, List.set_cons_succ] at M)) | ((with_reducible refine on_alloc ?_); refine xa M ?_; clear M; intro g w' M; go_big_move)) | go_values | go_skip | go_guarded | go_step | go_upon))
  exact ret_m1 rfl (Out.tmp rfl) rfl ⟨rfl, M.sub tk⟩
set_option maxRecDepth 100000 in
set_option maxHeartbeats 800000 in
theorem takes_mark (s : List UInt8) (hs : s.length ≤ 1048576) (x : List UInt8) (gr p : Nat) (hp : p ≤ s.length) (is_ d : Int) (A : Option Addr) (n c : Nat) (h1 : (kindN (lex s p).kind != 1) = true) (h2 : (kindN (lex s p).kind != 4) = false) (h3 : (!(textOf s (lex s p) == x)) = false) {S : Nat → Prop} {w0 w : World} (M : Mem S w0 [rx gr s p false is_ A n c d] w) :
    Calls Tryz.prog 43 #[.pointer (some ⟨gr, 0, none⟩), str x] w fun e w' => e = .returned (.bool true) ∧ Mem S w0 [rx gr s ((lex s p).next : Nat) false is_ A n c d] w' := by
  have HN : Hid (∀ w', w'.cell? ⟨gr, 0, none⟩ = some (str s) → w'.cell? ⟨gr, 1, none⟩ = some (fi (p : Int)) → Calls Tryz.prog 19 #[.pointer (some ⟨gr, 0, none⟩)] w' fun e w'' => e = .returned (.agg #[fi (kindN (lex s p).kind), fi ((lex s p).at_ : Nat), fi ((lex s p).next : Nat), str (textOf s (lex s p))]) ∧ Ext w' w'') := Lib.hid (fun w' h0 h1 => ref_next s hs gr p hp w' h0 h1)
  skip
  generalize (lex s p).next = nx at *
  generalize textOf s (lex s p) = tx at *
  generalize kindN (lex s p).kind = k at *
  go_enter Tryz.func43, Tryz.ntmps43
  (try dsimp only); (repeat (first | (first | (go_at_call 19; (with_reducible refine (HN.out _ (M.at_ pk 0 _ rfl) (M.at_ pk 1 _ rfl)).mono ?_); rintro _ w1 ⟨rfl, hX⟩; replace M := M.ext hX; clear hX; dsimp only) | ((with_reducible refine wl_g ?_); first | go_big_want | go_skip | ((with_reducible refine wl_off (by kernel_rfl) ?_); (first | ((with_reducible refine fastK Tryz.prog rfl ?_); go_big_move) | (with_reducible refine fastN rfl ?_) | skip))) | ((with_reducible refine on_load ?_); (first | refine xl1 M ?_ | refine xlN M ?_); go_big_move) | ((with_reducible refine on_store ?_); (first | refine xs1 M ?_ | refine xsN M ?_); clear M; intro w' M; (try simp only [List.set_cons_zero, List.set_cons_succ] at M)) | ((with_reducible refine on_alloc ?_); refine xa M ?_; clear M; intro g w' M; go_big_move)) | go_values | go_skip | go_guarded | go_step | go_upon))
  exact ret_m1 rfl (Out.tmp rfl) rfl ⟨rfl, M.sub tk⟩
set_option maxRecDepth 100000 in
set_option maxHeartbeats 800000 in
theorem takes_kind (s : List UInt8) (hs : s.length ≤ 1048576) (x : List UInt8) (gr p : Nat) (hp : p ≤ s.length) (is_ d : Int) (A : Option Addr) (n c : Nat) (h1 : (kindN (lex s p).kind != 1) = true) (h2 : (kindN (lex s p).kind != 4) = true) {S : Nat → Prop} {w0 w : World} (M : Mem S w0 [rx gr s p false is_ A n c d] w) :
    Calls Tryz.prog 43 #[.pointer (some ⟨gr, 0, none⟩), str x] w fun e w' => e = .returned (.bool false) ∧ Mem S w0 [rx gr s (p : Int) false is_ A n c d] w' := by
  have HN : Hid (∀ w', w'.cell? ⟨gr, 0, none⟩ = some (str s) → w'.cell? ⟨gr, 1, none⟩ = some (fi (p : Int)) → Calls Tryz.prog 19 #[.pointer (some ⟨gr, 0, none⟩)] w' fun e w'' => e = .returned (.agg #[fi (kindN (lex s p).kind), fi ((lex s p).at_ : Nat), fi ((lex s p).next : Nat), str (textOf s (lex s p))]) ∧ Ext w' w'') := Lib.hid (fun w' h0 h1 => ref_next s hs gr p hp w' h0 h1)
  skip
  generalize (lex s p).next = nx at *
  generalize textOf s (lex s p) = tx at *
  generalize kindN (lex s p).kind = k at *
  go_enter Tryz.func43, Tryz.ntmps43
  (try dsimp only); (repeat (first | (first | (go_at_call 19; (with_reducible refine (HN.out _ (M.at_ pk 0 _ rfl) (M.at_ pk 1 _ rfl)).mono ?_); rintro _ w1 ⟨rfl, hX⟩; replace M := M.ext hX; clear hX; dsimp only) | ((with_reducible refine wl_g ?_); first | go_big_want | go_skip | ((with_reducible refine wl_off (by kernel_rfl) ?_); (first | ((with_reducible refine fastK Tryz.prog rfl ?_); go_big_move) | (with_reducible refine fastN rfl ?_) | skip))) | ((with_reducible refine on_load ?_); (first | refine xl1 M ?_ | refine xlN M ?_); go_big_move) | ((with_reducible refine on_store ?_); (first | refine xs1 M ?_ | refine xsN M ?_); clear M; intro w' M; (try simp only [List.set_cons_zero, List.set_cons_succ] at M)) | ((with_reducible refine on_alloc ?_); refine xa M ?_; clear M; intro g w' M; go_big_move)) | go_values | go_skip | go_guarded | go_step | go_upon))
  exact ret_m1 rfl (Out.tmp rfl) rfl ⟨rfl, M.sub tk⟩
set_option maxRecDepth 100000 in
set_option maxHeartbeats 800000 in
theorem takes_word_no (s : List UInt8) (hs : s.length ≤ 1048576) (x : List UInt8) (gr p : Nat) (hp : p ≤ s.length) (is_ d : Int) (A : Option Addr) (n c : Nat) (h1 : (kindN (lex s p).kind != 1) = false) (h3 : (!(textOf s (lex s p) == x)) = true) {S : Nat → Prop} {w0 w : World} (M : Mem S w0 [rx gr s p false is_ A n c d] w) :
    Calls Tryz.prog 43 #[.pointer (some ⟨gr, 0, none⟩), str x] w fun e w' => e = .returned (.bool false) ∧ Mem S w0 [rx gr s (p : Int) false is_ A n c d] w' := by
  have HN : Hid (∀ w', w'.cell? ⟨gr, 0, none⟩ = some (str s) → w'.cell? ⟨gr, 1, none⟩ = some (fi (p : Int)) → Calls Tryz.prog 19 #[.pointer (some ⟨gr, 0, none⟩)] w' fun e w'' => e = .returned (.agg #[fi (kindN (lex s p).kind), fi ((lex s p).at_ : Nat), fi ((lex s p).next : Nat), str (textOf s (lex s p))]) ∧ Ext w' w'') := Lib.hid (fun w' h0 h1 => ref_next s hs gr p hp w' h0 h1)
  skip
  generalize (lex s p).next = nx at *
  generalize textOf s (lex s p) = tx at *
  generalize kindN (lex s p).kind = k at *
  go_enter Tryz.func43, Tryz.ntmps43
  (try dsimp only); (repeat (first | (first | (go_at_call 19; (with_reducible refine (HN.out _ (M.at_ pk 0 _ rfl) (M.at_ pk 1 _ rfl)).mono ?_); rintro _ w1 ⟨rfl, hX⟩; replace M := M.ext hX; clear hX; dsimp only) | ((with_reducible refine wl_g ?_); first | go_big_want | go_skip | ((with_reducible refine wl_off (by kernel_rfl) ?_); (first | ((with_reducible refine fastK Tryz.prog rfl ?_); go_big_move) | (with_reducible refine fastN rfl ?_) | skip))) | ((with_reducible refine on_load ?_); (first | refine xl1 M ?_ | refine xlN M ?_); go_big_move) | ((with_reducible refine on_store ?_); (first | refine xs1 M ?_ | refine xsN M ?_); clear M; intro w' M; (try simp only [List.set_cons_zero, List.set_cons_succ] at M)) | ((with_reducible refine on_alloc ?_); refine xa M ?_; clear M; intro g w' M; go_big_move)) | go_values | go_skip | go_guarded | go_step | go_upon))
  exact ret_m1 rfl (Out.tmp rfl) rfl ⟨rfl, M.sub tk⟩
set_option maxRecDepth 100000 in
set_option maxHeartbeats 800000 in
theorem takes_mark_no (s : List UInt8) (hs : s.length ≤ 1048576) (x : List UInt8) (gr p : Nat) (hp : p ≤ s.length) (is_ d : Int) (A : Option Addr) (n c : Nat) (h1 : (kindN (lex s p).kind != 1) = true) (h2 : (kindN (lex s p).kind != 4) = false) (h3 : (!(textOf s (lex s p) == x)) = true) {S : Nat → Prop} {w0 w : World} (M : Mem S w0 [rx gr s p false is_ A n c d] w) :
    Calls Tryz.prog 43 #[.pointer (some ⟨gr, 0, none⟩), str x] w fun e w' => e = .returned (.bool false) ∧ Mem S w0 [rx gr s (p : Int) false is_ A n c d] w' := by
  have HN : Hid (∀ w', w'.cell? ⟨gr, 0, none⟩ = some (str s) → w'.cell? ⟨gr, 1, none⟩ = some (fi (p : Int)) → Calls Tryz.prog 19 #[.pointer (some ⟨gr, 0, none⟩)] w' fun e w'' => e = .returned (.agg #[fi (kindN (lex s p).kind), fi ((lex s p).at_ : Nat), fi ((lex s p).next : Nat), str (textOf s (lex s p))]) ∧ Ext w' w'') := Lib.hid (fun w' h0 h1 => ref_next s hs gr p hp w' h0 h1)
  skip
  generalize (lex s p).next = nx at *
  generalize textOf s (lex s p) = tx at *
  generalize kindN (lex s p).kind = k at *
  go_enter Tryz.func43, Tryz.ntmps43
  (try dsimp only); (repeat (first | (first | (go_at_call 19; (with_reducible refine (HN.out _ (M.at_ pk 0 _ rfl) (M.at_ pk 1 _ rfl)).mono ?_); rintro _ w1 ⟨rfl, hX⟩; replace M := M.ext hX; clear hX; dsimp only) | ((with_reducible refine wl_g ?_); first | go_big_want | go_skip | ((with_reducible refine wl_off (by kernel_rfl) ?_); (first | ((with_reducible refine fastK Tryz.prog rfl ?_); go_big_move) | (with_reducible refine fastN rfl ?_) | skip))) | ((with_reducible refine on_load ?_); (first | refine xl1 M ?_ | refine xlN M ?_); go_big_move) | ((with_reducible refine on_store ?_); (first | refine xs1 M ?_ | refine xsN M ?_); clear M; intro w' M; (try simp only [List.set_cons_zero, List.set_cons_succ] at M)) | ((with_reducible refine on_alloc ?_); refine xa M ?_; clear M; intro g w' M; go_big_move)) | go_values | go_skip | go_guarded | go_step | go_upon))
  exact ret_m1 rfl (Out.tmp rfl) rfl ⟨rfl, M.sub tk⟩
theorem takes_yes (s : List UInt8) (hs : s.length ≤ 1048576) (x : List UInt8) (gr p : Nat) (hp : p ≤ s.length) (is_ d : Int) (A : Option Addr) (n c : Nat) (h : isWord s p x) {S : Nat → Prop} {w0 w : World} (M : Mem S w0 [rx gr s p false is_ A n c d] w) :
    Calls Tryz.prog 43 #[.pointer (some ⟨gr, 0, none⟩), str x] w fun e w' => e = .returned (.bool true) ∧ Mem S w0 [rx gr s ((lex s p).next : Nat) false is_ A n c d] w' := by
  have h3 : (!(textOf s (lex s p) == x)) = false := by simpa using h.2
  rcases h.1 with hk | hk
  · exact takes_word s hs x gr p hp is_ d A n c (by rw [hk]; rfl) h3 M
  · exact takes_mark s hs x gr p hp is_ d A n c (by rw [hk]; rfl) (by rw [hk]; rfl) h3 M
theorem takes_no (s : List UInt8) (hs : s.length ≤ 1048576) (x : List UInt8) (gr p : Nat) (hp : p ≤ s.length) (is_ d : Int) (A : Option Addr) (n c : Nat) (h : ¬ isWord s p x) {S : Nat → Prop} {w0 w : World} (M : Mem S w0 [rx gr s p false is_ A n c d] w) :
    Calls Tryz.prog 43 #[.pointer (some ⟨gr, 0, none⟩), str x] w fun e w' => e = .returned (.bool false) ∧ Mem S w0 [rx gr s (p : Int) false is_ A n c d] w' := by
  by_cases hx : textOf s (lex s p) = x
  · have h1 : (lex s p).kind ≠ .word := fun e => h ⟨.inl e, hx⟩
    have h2 : (lex s p).kind ≠ .mark := fun e => h ⟨.inr e, hx⟩
    refine takes_kind s hs x gr p hp is_ d A n c ?_ ?_ M
    · cases hk : (lex s p).kind <;> simp [kindN, hk] at h1 h2 ⊢
    · cases hk : (lex s p).kind <;> simp [kindN, hk] at h1 h2 ⊢
  · have h3 : (!(textOf s (lex s p) == x)) = true := by simpa using hx
    by_cases h1 : (lex s p).kind = .word
    · exact takes_word_no s hs x gr p hp is_ d A n c (by rw [h1]; rfl) h3 M
    by_cases h2 : (lex s p).kind = .mark
    · exact takes_mark_no s hs x gr p hp is_ d A n c (by rw [h2]; rfl) (by rw [h2]; rfl) h3 M
    refine takes_kind s hs x gr p hp is_ d A n c ?_ ?_ M
    · cases hk : (lex s p).kind <;> simp [kindN, hk] at h1 h2 ⊢
    · cases hk : (lex s p).kind <;> simp [kindN, hk] at h1 h2 ⊢
end Go.Proofs.YtkblkdnihppmnaaGreatDoor
/- Filters (layer 21): the document's reader (walk): all, any. -/
namespace Go.Proofs.YtkblkdnihppmnaaGreatDoor
set_option linter.unusedSimpArgs false
set_option linter.unusedVariables false
open Go.RowKit Res Filt

/-- what a part of the reader hands back: the filter's nodes behind those that were there, or that something is wrong -/
def RxPost (S : Nat → Prop) (s : List UInt8) (g p : Nat) (d : Int) (w0 : World) (out : List FN) (K : Nat) : Filt.Res → World → Prop
  | .ok n q, w' => q ≤ s.length ∧ p + (flat n).length ≤ q ∧ ∃ A c, Mem S w0 [rx g s q false 0 A (out ++ flat n).length c d, ro A c (out ++ flat n)] w'
  | .fail a, w' => ∃ (q : Nat) (A : Option Addr) (c : Nat) (out' : List FN), q ≤ s.length ∧ out'.length ≤ s.length + K ∧ Mem S w0 [rx g s q true a A out'.length c d, ro A c out'] w'
def RAt (f : FuncId) (nt : NT) (s : List UInt8) (d K : Nat) : Prop :=
  ∀ (S : Nat → Prop) (g p : Nat) (A : Option Addr) (c : Nat) (out : List FN) (w0 w : World), p ≤ s.length → out.length ≤ p → Mem S w0 [rx g s p false 0 A out.length c (d : Int), ro A c out] w →
    Calls Tryz.prog f #[.pointer (some ⟨g, 0, none⟩)] w fun e w' => e = .returned (.tuple #[]) ∧ ∃ r, Reads (lang s) false nt d p r ∧ RxPost S s g p (d : Int) w0 out K r w'
theorem nodeElem : ElemOf Tryz.prog 27 63 5 48 := elemOf_mk Tryz.underlying27 (z := .agg #[fi 0, fi 0, fi 0, fi 0, str []]) (by kernel_rfl) rfl (by decide)
theorem fnV_one : ∀ (x : FN) (u : Value), u ∈ fnV x → u.oneCell' = true := by
  intro x u h
  cases x <;> (simp only [fnV, List.mem_cons, List.not_mem_nil, or_false] at h; rcases h with rfl | rfl | rfl | rfl | rfl <;> rfl)
theorem fnV_len (x : FN) : (fnV x).length = 5 := by cases x <;> rfl
def measR (g n : Nat) (wr : World) : Nat := match wr.cell? ⟨g, 2, none⟩ with
  | some (.bool true) => 0
  | _ => n + 1 - (intOf ((wr.cell? ⟨g, 1, none⟩).getD undef)).toNat
theorem measR_good {S : Nat → Prop} {w0 w : World} {g : Nat} {s : List UInt8} {q : Nat} {is_ d : Int} {A : Option Addr} {n c k : Nat} {l : List Res} {F : Res → List Res} (M : Mem S w0 l w) (P : Pick l (rx g s q false is_ A n c d) F) : measR g k w = k + 1 - q := by
  have h1 := M.at_ P 1 _ rfl
  have h2 := M.at_ P 2 _ rfl
  unfold measR
  rw [h1, h2]
  simp [intOf]
theorem measR_bad {S : Nat → Prop} {w0 w : World} {g : Nat} {s : List UInt8} {q : Nat} {is_ d : Int} {A : Option Addr} {n c k : Nat} {l : List Res} {F : Res → List Res} (M : Mem S w0 l w) (P : Pick l (rx g s q true is_ A n c d) F) : measR g k w = 0 := by
  have h2 := M.at_ P 2 _ rfl
  unfold measR
  rw [h2]
/-- at a loop's head: a filter so far, or something is wrong -/
def LRel (nt : NT) (more : Nd → NT) (S : Nat → Prop) (s : List UInt8) (g p d : Nat) (w0 : World) (out : List FN) (K : Nat) (wr : World) : Prop :=
  (∃ (acc : Nd) (q : Nat) (A : Option Addr) (c : Nat), q ≤ s.length ∧ p + (flat acc).length ≤ q ∧ Hid (∀ r, Reads (lang s) false (more acc) d q r → Reads (lang s) false nt d p r) ∧ Mem S w0 [rx g s q false 0 A (out ++ flat acc).length c (d : Int), ro A c (out ++ flat acc)] wr) ∨
  (∃ (a q : Nat) (A : Option Addr) (c : Nat) (out' : List FN), Hid (Reads (lang s) false nt d p (.fail a)) ∧ q ≤ s.length ∧ out'.length ≤ s.length + K ∧ Mem S w0 [rx g s q true a A out'.length c (d : Int), ro A c out'] wr)
set_option maxRecDepth 100000 in
set_option maxHeartbeats 800000 in
theorem rall_of (s : List UInt8) (hs : s.length ≤ 1048576) (d K : Nat) (hK : K ≤ 1000) (hone : RAt 50 .one s d K) : RAt 42 .all s d (K + 1) := by
  intro S gr p A c out w0 w hp hout M
  have HO : Hid (∀ (p : Nat) (A : Option Addr) (c : Nat) (out : List FN) (w : World), p ≤ s.length → out.length ≤ p → Mem S w0 [rx gr s p false 0 A out.length c (d : Int), ro A c out] w → Calls Tryz.prog 50 #[.pointer (some ⟨gr, 0, none⟩)] w fun e w' => e = .returned (.tuple #[]) ∧ ∃ r, Reads (lang s) false .one d p r ∧ RxPost S s gr p (d : Int) w0 out K r w') := Lib.hid (fun p A c out w hp ho M => hone S gr p A c out w0 w hp ho M)
  have HY : Hid (∀ (p : Nat) (A : Option Addr) (c n : Nat) (w0 w : World) (S : Nat → Prop), p ≤ s.length → isWord s p wAnd → Mem S w0 [rx gr s p false 0 A n c (d : Int)] w → Calls Tryz.prog 43 #[.pointer (some ⟨gr, 0, none⟩), .string ⟨#[97, 110, 100]⟩] w fun e w' => e = .returned (.bool true) ∧ Mem S w0 [rx gr s ((lex s p).next : Nat) false 0 A n c (d : Int)] w') := Lib.hid (fun p A c n w0 w S hp hb M => takes_yes s hs wAnd gr p hp 0 d A n c hb M)
  have HZ : Hid (∀ (p : Nat) (A : Option Addr) (c n : Nat) (w0 w : World) (S : Nat → Prop), p ≤ s.length → ¬ isWord s p wAnd → Mem S w0 [rx gr s p false 0 A n c (d : Int)] w → Calls Tryz.prog 43 #[.pointer (some ⟨gr, 0, none⟩), .string ⟨#[97, 110, 100]⟩] w fun e w' => e = .returned (.bool false) ∧ Mem S w0 [rx gr s (p : Int) false 0 A n c (d : Int)] w') := Lib.hid (fun p A c n w0 w S hp hb M => takes_no s hs wAnd gr p hp 0 d A n c hb M)
  clear hone
  go_enter Tryz.func42, Tryz.ntmps42
  (try dsimp only); (repeat (first | (first | (go_at_call 50; (with_reducible refine (HO.out _ _ _ _ _ hp hout M).mono ?_); rintro _ w1 ⟨rfl, r, hr, hx⟩; dsimp only) | ((with_reducible refine on_load ?_); (first | refine xl1 M ?_ | refine xlN M ?_); go_big_move) | ((with_reducible refine on_store ?_); (first | refine xs1 M ?_ | refine xsN M ?_); clear M; intro w' M; (try simp only [List.set_cons_zero, List.set_cons_succ] at M))) | go_values | go_skip | go_guarded | go_step | go_upon))
  have HL : LRel .all .allMore S s gr p d w0 out (K + 1) w1 := by
    cases r with
    | ok n q =>
      obtain ⟨h1, h2, A', c', h3⟩ := hx
      exact .inl ⟨n, q, A', c', h1, h2, Lib.hid (fun r h => Reads.allOk hr h), h3⟩
    | fail a =>
      obtain ⟨q, A', c', out', h1, h2, h3⟩ := hx
      exact .inr ⟨a, q, A', c', out', Lib.hid (Reads.allFail hr), h1, by omega, h3⟩
  clear hx hr M
  go_loopw [] (fun wr => LRel .all .allMore S s gr p d w0 out (K + 1) wr) (fun wr => measR gr s.length wr)
  · exact HL
  · clear HL
    rcases hrel with ⟨acc, q, A1, c1, hq, hpq, HP, M⟩ | ⟨a, q, A1, c1, out1, HP, hq, ho1, M⟩
    · have hm0 := measR_good (k := s.length) M Pick.head
      by_cases hw : isWord s q wAnd
      · have HW := Lib.hid hw
        have hqn : q < (lex s q).next := word_gt hw
        have hbk : (lex s q).kind ≠ .bad := by rcases hw.1 with h | h <;> (rw [h]; simp)
        have hqs : (lex s q).next ≤ s.length := (next_le hq hbk).2
        have hlo : (out ++ flat acc).length ≤ (lex s q).next := by rw [List.length_append]; omega
        (try dsimp only); (repeat (first | (first | (go_at_call 43; (with_reducible refine (HY.out _ _ _ _ _ _ _ hq HW.out (M.only tk)).mono ?_); rintro _ w2 ⟨rfl, M1⟩; replace M := M.into tk M1; clear M1; dsimp only [List.cons_append, List.nil_append] at M; dsimp only) | (go_at_call 50; (with_reducible refine (HO.out _ _ _ _ _ hqs hlo M).mono ?_); rintro _ w3 ⟨rfl, r, hr, hx⟩; clear M; dsimp only; refine Hid.out ?_) | ((with_reducible refine wl_g ?_); first | go_big_want | go_skip | ((with_reducible refine wl_off (by kernel_rfl) ?_); (first | ((with_reducible refine fastK Tryz.prog rfl ?_); go_big_move) | (with_reducible refine fastN rfl ?_) | skip))) | ((with_reducible refine on_load ?_); (first | refine xl1 M ?_ | refine xlN M ?_); go_big_move) | ((with_reducible refine on_store ?_); (first | refine xs1 M ?_ | refine xsN M ?_); clear M; intro w' M; (try simp only [List.set_cons_zero, List.set_cons_succ] at M))) | go_values | go_skip | go_guarded | go_step | go_upon))
        cases r with
        | ok m q3 =>
          obtain ⟨hq3, hpq3, A3, c3, M⟩ := hx
          refine Lib.hid ?_
          have e : out ++ flat (Nd.all acc m) = (out ++ flat acc ++ flat m) ++ [FN.all] := by
            show out ++ (flat acc ++ flat m ++ [FN.all]) = _
            simp only [List.append_assoc]
          have E := Lib.hid e
          have hfl : (flat (Nd.all acc m)).length = (flat acc).length + (flat m).length + 1 := by
            show (flat acc ++ flat m ++ [FN.all]).length = _
            simp only [List.length_append, List.length_cons, List.length_nil]
          have hll : (out ++ flat acc ++ flat m).length ≤ 2000000 := by simp only [List.length_append]; omega
          clear e
          obtain ⟨L, hL⟩ : ∃ L, L = out ++ flat acc ++ flat m := ⟨_, rfl⟩
          rw [← hL] at M E hll
          have HN : Hid (∀ r, Reads (lang s) false (.allMore (Nd.all acc m)) d q3 r → Reads (lang s) false .all d p r) := Lib.hid (fun r h => HP.out r (Reads.allMore hw adv_lazy hr h))
          clear hL hr hw
          (try dsimp only); (repeat (first | (first | ((with_reducible refine on_single ?_); refine x1 M nodeElem ?_; clear M; intro g w' M; go_big_move) | ((with_reducible refine on_append ?_); refine xap M nodeElem FN.all fnV_len fnV_one ?_; clear M; intro A' c' w' M; go_big_move) | ((with_reducible refine wl_g ?_); first | go_big_want | go_skip | ((with_reducible refine wl_off (by kernel_rfl) ?_); (first | ((with_reducible refine fastK Tryz.prog rfl ?_); go_big_move) | (with_reducible refine fastN rfl ?_) | skip))) | ((with_reducible refine on_load ?_); (first | refine xl1 M ?_ | refine xlN M ?_); go_big_move) | ((with_reducible refine on_store ?_); (first | refine xs1 M ?_ | refine xsN M ?_); clear M; intro w' M; (try simp only [List.set_cons_zero, List.set_cons_succ] at M))) | go_values | go_skip | go_guarded | go_step | go_upon))
          have M2 := M.sub (rs := [rx gr s q3 false 0 _ _ _ _, ro _ _ _]) tk
          have M3 := M2
          rw [show L.length + 1 = (L ++ [FN.all]).length by simp, ← E.out] at M3
          refine ⟨.inl ⟨Nd.all acc m, q3, _, _, hq3, by omega, HN, M3⟩, ?_⟩
          rw [hm0, measR_good (k := s.length) M2 Pick.head]
          omega
        | fail a =>
          obtain ⟨q3, A3, c3, out3, hq3, hl3, M⟩ := hx
          refine Lib.hid ?_
          have HN : Hid (Reads (lang s) false .all d p (.fail a)) := Lib.hid (HP.out _ (Reads.allNo hw adv_lazy hr))
          have hll : out3.length ≤ 2000000 := by omega
          clear hr hw
          (try dsimp only); (repeat (first | (first | ((with_reducible refine on_single ?_); refine x1 M nodeElem ?_; clear M; intro g w' M; go_big_move) | ((with_reducible refine on_append ?_); refine xap M nodeElem FN.all fnV_len fnV_one ?_; clear M; intro A' c' w' M; go_big_move) | ((with_reducible refine wl_g ?_); first | go_big_want | go_skip | ((with_reducible refine wl_off (by kernel_rfl) ?_); (first | ((with_reducible refine fastK Tryz.prog rfl ?_); go_big_move) | (with_reducible refine fastN rfl ?_) | skip))) | ((with_reducible refine on_load ?_); (first | refine xl1 M ?_ | refine xlN M ?_); go_big_move) | ((with_reducible refine on_store ?_); (first | refine xs1 M ?_ | refine xsN M ?_); clear M; intro w' M; (try simp only [List.set_cons_zero, List.set_cons_succ] at M))) | go_values | go_skip | go_guarded | go_step | go_upon))
          have M2 := M.sub (rs := [rx gr s q3 true a _ _ _ _, ro _ _ _]) tk
          have M3 := M2
          rw [show out3.length + 1 = (out3 ++ [FN.all]).length by simp] at M3
          refine ⟨.inr ⟨a, q3, _, _, out3 ++ [FN.all], HN, hq3, by simp; omega, M3⟩, ?_⟩
          rw [hm0, measR_bad (k := s.length) M2 Pick.head]
          omega
      · have HW := Lib.hid hw
        have HN : Hid (Reads (lang s) false .all d p (.ok acc q)) := Lib.hid (HP.out _ (Reads.allEnd hw))
        clear hw
        (try dsimp only); (repeat (first | (first | (go_at_call 43; (with_reducible refine (HZ.out _ _ _ _ _ _ _ hq HW.out (M.only tk)).mono ?_); rintro _ w2 ⟨rfl, M1⟩; replace M := M.into tk M1; clear M1; dsimp only [List.cons_append, List.nil_append] at M; dsimp only) | ((with_reducible refine wl_g ?_); first | go_big_want | go_skip | ((with_reducible refine wl_off (by kernel_rfl) ?_); (first | ((with_reducible refine fastK Tryz.prog rfl ?_); go_big_move) | (with_reducible refine fastN rfl ?_) | skip))) | ((with_reducible refine on_load ?_); (first | refine xl1 M ?_ | refine xlN M ?_); go_big_move) | ((with_reducible refine on_store ?_); (first | refine xs1 M ?_ | refine xsN M ?_); clear M; intro w' M; (try simp only [List.set_cons_zero, List.set_cons_succ] at M))) | go_values | go_skip | go_guarded | go_step | go_upon))
        exact ret_n0 rfl rfl ⟨rfl, _, HN.out, hq, hpq, _, _, M⟩
    · (try dsimp only); (repeat (first | (first | ((with_reducible refine wl_g ?_); first | go_big_want | go_skip | ((with_reducible refine wl_off (by kernel_rfl) ?_); (first | ((with_reducible refine fastK Tryz.prog rfl ?_); go_big_move) | (with_reducible refine fastN rfl ?_) | skip))) | ((with_reducible refine on_load ?_); (first | refine xl1 M ?_ | refine xlN M ?_); go_big_move) | ((with_reducible refine on_store ?_); (first | refine xs1 M ?_ | refine xsN M ?_); clear M; intro w' M; (try simp only [List.set_cons_zero, List.set_cons_succ] at M))) | go_values | go_skip | go_guarded | go_step | go_upon))
      exact ret_n0 rfl rfl ⟨rfl, _, HP.out, q, _, _, _, hq, ho1, M⟩
set_option maxRecDepth 100000 in
set_option maxHeartbeats 800000 in
theorem rany_of (s : List UInt8) (hs : s.length ≤ 1048576) (d K : Nat) (hK : K ≤ 1000) (hone : RAt 42 .all s d K) : RAt 20 .any s d (K + 1) := by
  intro S gr p A c out w0 w hp hout M
  have HO : Hid (∀ (p : Nat) (A : Option Addr) (c : Nat) (out : List FN) (w : World), p ≤ s.length → out.length ≤ p → Mem S w0 [rx gr s p false 0 A out.length c (d : Int), ro A c out] w → Calls Tryz.prog 42 #[.pointer (some ⟨gr, 0, none⟩)] w fun e w' => e = .returned (.tuple #[]) ∧ ∃ r, Reads (lang s) false .all d p r ∧ RxPost S s gr p (d : Int) w0 out K r w') := Lib.hid (fun p A c out w hp ho M => hone S gr p A c out w0 w hp ho M)
  have HY : Hid (∀ (p : Nat) (A : Option Addr) (c n : Nat) (w0 w : World) (S : Nat → Prop), p ≤ s.length → isWord s p wOr → Mem S w0 [rx gr s p false 0 A n c (d : Int)] w → Calls Tryz.prog 43 #[.pointer (some ⟨gr, 0, none⟩), .string ⟨#[111, 114]⟩] w fun e w' => e = .returned (.bool true) ∧ Mem S w0 [rx gr s ((lex s p).next : Nat) false 0 A n c (d : Int)] w') := Lib.hid (fun p A c n w0 w S hp hb M => takes_yes s hs wOr gr p hp 0 d A n c hb M)
  have HZ : Hid (∀ (p : Nat) (A : Option Addr) (c n : Nat) (w0 w : World) (S : Nat → Prop), p ≤ s.length → ¬ isWord s p wOr → Mem S w0 [rx gr s p false 0 A n c (d : Int)] w → Calls Tryz.prog 43 #[.pointer (some ⟨gr, 0, none⟩), .string ⟨#[111, 114]⟩] w fun e w' => e = .returned (.bool false) ∧ Mem S w0 [rx gr s (p : Int) false 0 A n c (d : Int)] w') := Lib.hid (fun p A c n w0 w S hp hb M => takes_no s hs wOr gr p hp 0 d A n c hb M)
  clear hone
  go_enter Tryz.func20, Tryz.ntmps20
  (try dsimp only); (repeat (first | (first | (go_at_call 42; (with_reducible refine (HO.out _ _ _ _ _ hp hout M).mono ?_); rintro _ w1 ⟨rfl, r, hr, hx⟩; dsimp only) | ((with_reducible refine on_load ?_); (first | refine xl1 M ?_ | refine xlN M ?_); go_big_move) | ((with_reducible refine on_store ?_); (first | refine xs1 M ?_ | refine xsN M ?_); clear M; intro w' M; (try simp only [List.set_cons_zero, List.set_cons_succ] at M))) | go_values | go_skip | go_guarded | go_step | go_upon))
  have HL : LRel .any .anyMore S s gr p d w0 out (K + 1) w1 := by
    cases r with
    | ok n q =>
      obtain ⟨h1, h2, A', c', h3⟩ := hx
      exact .inl ⟨n, q, A', c', h1, h2, Lib.hid (fun r h => Reads.anyOk hr h), h3⟩
    | fail a =>
      obtain ⟨q, A', c', out', h1, h2, h3⟩ := hx
      exact .inr ⟨a, q, A', c', out', Lib.hid (Reads.anyFail hr), h1, by omega, h3⟩
  clear hx hr M
  go_loopw [] (fun wr => LRel .any .anyMore S s gr p d w0 out (K + 1) wr) (fun wr => measR gr s.length wr)
  · exact HL
  · clear HL
    rcases hrel with ⟨acc, q, A1, c1, hq, hpq, HP, M⟩ | ⟨a, q, A1, c1, out1, HP, hq, ho1, M⟩
    · have hm0 := measR_good (k := s.length) M Pick.head
      by_cases hw : isWord s q wOr
      · have HW := Lib.hid hw
        have hqn : q < (lex s q).next := word_gt hw
        have hbk : (lex s q).kind ≠ .bad := by rcases hw.1 with h | h <;> (rw [h]; simp)
        have hqs : (lex s q).next ≤ s.length := (next_le hq hbk).2
        have hlo : (out ++ flat acc).length ≤ (lex s q).next := by rw [List.length_append]; omega
        (try dsimp only); (repeat (first | (first | (go_at_call 43; (with_reducible refine (HY.out _ _ _ _ _ _ _ hq HW.out (M.only tk)).mono ?_); rintro _ w2 ⟨rfl, M1⟩; replace M := M.into tk M1; clear M1; dsimp only [List.cons_append, List.nil_append] at M; dsimp only) | (go_at_call 42; (with_reducible refine (HO.out _ _ _ _ _ hqs hlo M).mono ?_); rintro _ w3 ⟨rfl, r, hr, hx⟩; clear M; dsimp only; refine Hid.out ?_) | ((with_reducible refine wl_g ?_); first | go_big_want | go_skip | ((with_reducible refine wl_off (by kernel_rfl) ?_); (first | ((with_reducible refine fastK Tryz.prog rfl ?_); go_big_move) | (with_reducible refine fastN rfl ?_) | skip))) | ((with_reducible refine on_load ?_); (first | refine xl1 M ?_ | refine xlN M ?_); go_big_move) | ((with_reducible refine on_store ?_); (first | refine xs1 M ?_ | refine xsN M ?_); clear M; intro w' M; (try simp only [List.set_cons_zero, List.set_cons_succ] at M))) | go_values | go_skip | go_guarded | go_step | go_upon))
        cases r with
        | ok m q3 =>
          obtain ⟨hq3, hpq3, A3, c3, M⟩ := hx
          refine Lib.hid ?_
          have e : out ++ flat (Nd.any acc m) = (out ++ flat acc ++ flat m) ++ [FN.any] := by
            show out ++ (flat acc ++ flat m ++ [FN.any]) = _
            simp only [List.append_assoc]
          have E := Lib.hid e
          have hfl : (flat (Nd.any acc m)).length = (flat acc).length + (flat m).length + 1 := by
            show (flat acc ++ flat m ++ [FN.any]).length = _
            simp only [List.length_append, List.length_cons, List.length_nil]
          have hll : (out ++ flat acc ++ flat m).length ≤ 2000000 := by simp only [List.length_append]; omega
          clear e
          obtain ⟨L, hL⟩ : ∃ L, L = out ++ flat acc ++ flat m := ⟨_, rfl⟩
          rw [← hL] at M E hll
          have HN : Hid (∀ r, Reads (lang s) false (.anyMore (Nd.any acc m)) d q3 r → Reads (lang s) false .any d p r) := Lib.hid (fun r h => HP.out r (Reads.anyMore hw adv_lazy hr h))
          clear hL hr hw
          (try dsimp only); (repeat (first | (first | ((with_reducible refine on_single ?_); refine x1 M nodeElem ?_; clear M; intro g w' M; go_big_move) | ((with_reducible refine on_append ?_); refine xap M nodeElem FN.any fnV_len fnV_one ?_; clear M; intro A' c' w' M; go_big_move) | ((with_reducible refine wl_g ?_); first | go_big_want | go_skip | ((with_reducible refine wl_off (by kernel_rfl) ?_); (first | ((with_reducible refine fastK Tryz.prog rfl ?_); go_big_move) | (with_reducible refine fastN rfl ?_) | skip))) | ((with_reducible refine on_load ?_); (first | refine xl1 M ?_ | refine xlN M ?_); go_big_move) | ((with_reducible refine on_store ?_); (first | refine xs1 M ?_ | refine xsN M ?_); clear M; intro w' M; (try simp only [List.set_cons_zero, List.set_cons_succ] at M))) | go_values | go_skip | go_guarded | go_step | go_upon))
          have M2 := M.sub (rs := [rx gr s q3 false 0 _ _ _ _, ro _ _ _]) tk
          have M3 := M2
          rw [show L.length + 1 = (L ++ [FN.any]).length by simp, ← E.out] at M3
          refine ⟨.inl ⟨Nd.any acc m, q3, _, _, hq3, by omega, HN, M3⟩, ?_⟩
          rw [hm0, measR_good (k := s.length) M2 Pick.head]
          omega
        | fail a =>
          obtain ⟨q3, A3, c3, out3, hq3, hl3, M⟩ := hx
          refine Lib.hid ?_
          have HN : Hid (Reads (lang s) false .any d p (.fail a)) := Lib.hid (HP.out _ (Reads.anyNo hw adv_lazy hr))
          have hll : out3.length ≤ 2000000 := by omega
          clear hr hw
          (try dsimp only); (repeat (first | (first | ((with_reducible refine on_single ?_); refine x1 M nodeElem ?_; clear M; intro g w' M; go_big_move) | ((with_reducible refine on_append ?_); refine xap M nodeElem FN.any fnV_len fnV_one ?_; clear M; intro A' c' w' M; go_big_move) | ((with_reducible refine wl_g ?_); first | go_big_want | go_skip | ((with_reducible refine wl_off (by kernel_rfl) ?_); (first | ((with_reducible refine fastK Tryz.prog rfl ?_); go_big_move) | (with_reducible refine fastN rfl ?_) | skip))) | ((with_reducible refine on_load ?_); (first | refine xl1 M ?_ | refine xlN M ?_); go_big_move) | ((with_reducible refine on_store ?_); (first | refine xs1 M ?_ | refine xsN M ?_); clear M; intro w' M; (try simp only [List.set_cons_zero, List.set_cons_succ] at M))) | go_values | go_skip | go_guarded | go_step | go_upon))
          have M2 := M.sub (rs := [rx gr s q3 true a _ _ _ _, ro _ _ _]) tk
          have M3 := M2
          rw [show out3.length + 1 = (out3 ++ [FN.any]).length by simp] at M3
          refine ⟨.inr ⟨a, q3, _, _, out3 ++ [FN.any], HN, hq3, by simp; omega, M3⟩, ?_⟩
          rw [hm0, measR_bad (k := s.length) M2 Pick.head]
          omega
      · have HW := Lib.hid hw
        have HN : Hid (Reads (lang s) false .any d p (.ok acc q)) := Lib.hid (HP.out _ (Reads.anyEnd hw))
        clear hw
        (try dsimp only); (repeat (first | (first | (go_at_call 43; (with_reducible refine (HZ.out _ _ _ _ _ _ _ hq HW.out (M.only tk)).mono ?_); rintro _ w2 ⟨rfl, M1⟩; replace M := M.into tk M1; clear M1; dsimp only [List.cons_append, List.nil_append] at M; dsimp only) | ((with_reducible refine wl_g ?_); first | go_big_want | go_skip | ((with_reducible refine wl_off (by kernel_rfl) ?_); (first | ((with_reducible refine fastK Tryz.prog rfl ?_); go_big_move) | (with_reducible refine fastN rfl ?_) | skip))) | ((with_reducible refine on_load ?_); (first | refine xl1 M ?_ | refine xlN M ?_); go_big_move) | ((with_reducible refine on_store ?_); (first | refine xs1 M ?_ | refine xsN M ?_); clear M; intro w' M; (try simp only [List.set_cons_zero, List.set_cons_succ] at M))) | go_values | go_skip | go_guarded | go_step | go_upon))
        exact ret_n0 rfl rfl ⟨rfl, _, HN.out, hq, hpq, _, _, M⟩
    · (try dsimp only); (repeat (first | (first | ((with_reducible refine wl_g ?_); first | go_big_want | go_skip | ((with_reducible refine wl_off (by kernel_rfl) ?_); (first | ((with_reducible refine fastK Tryz.prog rfl ?_); go_big_move) | (with_reducible refine fastN rfl ?_) | skip))) | ((with_reducible refine on_load ?_); (first | refine xl1 M ?_ | refine xlN M ?_); go_big_move) | ((with_reducible refine on_store ?_); (first | refine xs1 M ?_ | refine xsN M ?_); clear M; intro w' M; (try simp only [List.set_cons_zero, List.set_cons_succ] at M))) | go_values | go_skip | go_guarded | go_step | go_upon))
      exact ret_n0 rfl rfl ⟨rfl, _, HP.out, q, _, _, _, hq, ho1, M⟩
end Go.Proofs.YtkblkdnihppmnaaGreatDoor
/- Filters (layer 21): the program's parser (walk, seventh part): test and the whole parser. -/
namespace Go.Proofs.YtkblkdnihppmnaaGreatDoor
set_option linter.unusedSimpArgs false
set_option linter.unusedVariables false
open Go.RowKit Res Filt

theorem digits_num {s : List UInt8} {p : Nat} (h : (lex s p).kind = .digits) : ∃ v, Filt.numOf (textOf s (lex s p)) = some v := by
  rw [take_lex]
  have h : (lexRest (s.drop (startOf s p))).1 = .digits := h
  generalize s.drop (startOf s p) = l at h
  cases l with
  | nil => cases h
  | cons c r =>
    have h : (lexCons c r).1 = .digits := h
    show ∃ v, Filt.numOf ((c :: r).take (lexCons c r).2) = some v
    unfold lexCons at h ⊢
    split at h
    · cases h
    rename_i h1
    rw [if_neg h1]
    split at h
    · rename_i h2
      rw [if_pos h2]
      split at h
      · rename_i h3
        rw [List.take_succ_cons]
        exact Option.isSome_iff_exists.1 h3
      · cases h
    rename_i h2
    rw [if_neg h2]
    split at h
    · split at h <;> cases h
    · (repeat' split at h) <;> cases h
theorem num_place {x : List UInt8} (h : placeOf fieldNums x < 0) : ¬ fieldNums.idxOf x < 13 := by
  intro h1
  unfold placeOf at h
  rw [if_pos (show fieldNums.idxOf x < fieldNums.length from h1)] at h
  omega
theorem place_num {x : List UInt8} (h : 0 ≤ placeOf fieldNums x) : fieldNums.idxOf x < 13 := by
  unfold placeOf at h
  split at h
  · assumption
  · omega
theorem test_at (s : List UInt8) (hs : s.length ≤ 1048576) : TestAt s := by
  intro S g p d w0 w hp hb M hN hS
  have K : TestC s S g d w0 := ⟨fun p w hp hb M => next_rp s hs hp hb M hN hS, fun p w M => fail_rp M, fun p w M => hN.mem hS M⟩
  by_cases h0 : (lex s p).kind = .word
  rotate_left
  · exact test_kind s hs S g d w0 K p w hp hb M h0
  have hask : ∀ {q}, isAsk s q → askNames.getD (askOf s q) [] = textOf s (lex s q) := fun h => idx_lt h.2
  have hkn : ∀ {q}, (lex s q).kind = .mark → isAsk s q ∨ textOf s (lex s q) = [40] ∨ textOf s (lex s q) = [41] := fun {q} h => by
    rcases mark_text h with h1 | h1 | h1
    · exact .inr (.inl h1)
    · exact .inr (.inr h1)
    · exact .inl ⟨h, h1⟩
  have ho : ∀ {q}, isAsk s q → textOf s (lex s q) ≠ [40] := fun h e => by have := h.2; unfold askOf at this; rw [e] at this; revert this; decide
  have hc : ∀ {q}, isAsk s q → textOf s (lex s q) ≠ [41] := fun h e => by have := h.2; unfold askOf at this; rw [e] at this; revert this; decide
  have hbad : ∀ {q}, (lex s q).kind = .bad → isBad s q := fun h => h
  by_cases hi : textOf s (lex s p) = [105, 100]
  · have hfo : fieldOf s p = 13 := by unfold fieldOf; rw [hi]; exact field_id
    have hf : isField s p := ⟨h0, by rw [hfo]; omega⟩
    by_cases hb1 : (lex s (lex s p).next).kind = .bad
    · exact test_id_bad1 s hs S g d w0 K p w hp hb M h0 hi hf hb1
    by_cases h1 : (lex s (lex s p).next).kind = .mark
    rotate_left
    · exact test_id_noMark s hs S g d w0 K p w hp hb M h0 hi hf hb1 h1 (fun h => h1 h.1)
    by_cases hk : isAsk s (lex s p).next
    rotate_left
    · rcases hkn h1 with h | h | h
      · exact absurd h hk
      · exact test_id_open s hs S g d w0 K p w hp hb M h0 hi hf h1 h hk
      · exact test_id_close s hs S g d w0 K p w hp hb M h0 hi hf h1 h hk
    by_cases hb2 : (lex s (lex s (lex s p).next).next).kind = .bad
    · exact test_id_bad2 s hs S g d w0 K p w hp hb M h0 hi hf h1 (ho hk) (hc hk) hk (hask hk) hb2
    by_cases h2 : (lex s (lex s (lex s p).next).next).kind = .quoted
    · obtain ⟨l, ht2, hl, h64⟩ := quoted_text h2
      refine test_id_quoted s hs S g d w0 K p w hp hb M h0 hi hf h1 (ho hk) (hc hk) hk (hask hk) l h2 ht2 hl h64 ?_
      unfold testVal
      rw [if_pos ⟨hfo, h2⟩, ht2]
      simp
    · refine test_id_none s hs S g d w0 K p w hp hb M h0 hi hf h1 (ho hk) (hc hk) hk (hask hk) hb2 h2 ?_
      unfold testVal
      rw [if_neg (fun h => h2 h.2), if_neg (fun h => h.1 hfo), if_neg (fun h => by rw [hfo] at h; exact absurd h.1 (by decide))]
  · obtain ⟨v0, hv0⟩ : ∃ v0, placeOf fieldNums (textOf s (lex s p)) = v0 := ⟨_, rfl⟩
    by_cases hneg : v0 < 0
    · exact test_name s hs S g d w0 K p w hp hb M h0 hi v0 hv0 hneg (fun h => field_no (num_place (by rw [hv0]; exact hneg)) hi h.2)
    have hpos : 0 ≤ v0 := by omega
    have hlt := place_num (by rw [hv0]; exact hpos)
    have hfo : fieldOf s p < 13 := by unfold fieldOf; rw [(field_num hlt).1]; exact hlt
    have hf : isField s p := ⟨h0, by omega⟩
    have hfd : fieldNames.getD (fieldOf s p) [] = textOf s (lex s p) := idx_lt hf.2
    by_cases hb1 : (lex s (lex s p).next).kind = .bad
    · exact test_num_bad1 s hs S g d w0 K p w hp hb M h0 hi v0 hv0 hpos hf hb1
    by_cases h1 : (lex s (lex s p).next).kind = .mark
    rotate_left
    · exact test_num_noMark s hs S g d w0 K p w hp hb M h0 hi v0 hv0 hpos hf hb1 h1 (fun h => h1 h.1)
    by_cases hk : isAsk s (lex s p).next
    rotate_left
    · rcases hkn h1 with h | h | h
      · exact absurd h hk
      · exact test_num_open s hs S g d w0 K p w hp hb M h0 hi v0 hv0 hpos hf h1 h hk
      · exact test_num_close s hs S g d w0 K p w hp hb M h0 hi v0 hv0 hpos hf h1 h hk
    by_cases hb2 : (lex s (lex s (lex s p).next).next).kind = .bad
    · exact test_num_bad2 s hs S g d w0 K p w hp hb M h0 hi v0 hv0 hpos hf h1 (ho hk) (hc hk) hk (hask hk) hb2
    by_cases h2 : (lex s (lex s (lex s p).next).next).kind = .digits
    · obtain ⟨v, hv⟩ := digits_num h2
      refine test_num_digits s hs S g d w0 K p w hp hb M h0 hi v0 hv0 hpos hf h1 (ho hk) (hc hk) hk (hask hk) v h2 hv hfd ?_
      unfold testVal
      rw [if_neg (fun h => by omega), if_pos ⟨by omega, h2⟩, hv]
      rfl
    by_cases hst : textOf s (lex s p) = [115, 116, 97, 116, 117, 115]
    rotate_left
    · refine test_num_none s hs S g d w0 K p w hp hb M h0 hi v0 hv0 hpos hf h1 (ho hk) (hc hk) hk (hask hk) hb2 h2 hst ?_
      unfold testVal
      rw [if_neg (fun h => by omega), if_neg (fun h => h2 h.2), if_neg (fun h => hst (field_is_status h.1))]
    have hf2 : fieldOf s p = 2 := by unfold fieldOf; rw [hst]; exact field_status
    by_cases h3 : (lex s (lex s (lex s p).next).next).kind = .word
    rotate_left
    · refine test_status_kind s hs S g d w0 K p w hp hb M h0 hst v0 hv0 hpos hf h1 (ho hk) (hc hk) hk (hask hk) hb2 h2 h3 ?_
      unfold testVal
      rw [if_neg (fun h => by omega), if_neg (fun h => h2 h.2), if_neg (fun h => h3 h.2.1)]
    obtain ⟨v2, hv2⟩ : ∃ v2, placeOf statusNames (textOf s (lex s (lex s (lex s p).next).next)) = v2 := ⟨_, rfl⟩
    by_cases hidx : statusNames.idxOf (textOf s (lex s (lex s (lex s p).next).next)) < 7
    · have hv2' : v2 = statusNames.idxOf (textOf s (lex s (lex s (lex s p).next).next)) := by rw [← hv2]; unfold placeOf; rw [if_pos (show _ < statusNames.length from hidx)]
      refine test_status_ok s hs S g d w0 K p w hp hb M h0 hst v0 hv0 hpos hf h1 (ho hk) (hc hk) hk (hask hk) v2 hv2 (by omega) (by omega) h3 hfd ?_
      unfold testVal
      rw [if_neg (fun h => by omega), if_neg (fun h => h2 h.2), if_pos ⟨hf2, h3, hidx⟩, hv2']
    · have hv2' : v2 = -1 := by rw [← hv2]; unfold placeOf; rw [if_neg (show ¬ _ < statusNames.length from hidx)]
      refine test_status_no s hs S g d w0 K p w hp hb M h0 hst v0 hv0 hpos hf h1 (ho hk) (hc hk) hk (hask hk) v2 hv2 (by omega) h3 ?_
      unfold testVal
      rw [if_neg (fun h => by omega), if_neg (fun h => h2 h.2), if_neg (fun h => hidx h.2.2)]
theorem parser_any (s : List UInt8) (hs : s.length ≤ 1048576) : At 17 .any s 0 := (parser_at s hs (test_at s hs) 32 0 rfl).2
end Go.Proofs.YtkblkdnihppmnaaGreatDoor
