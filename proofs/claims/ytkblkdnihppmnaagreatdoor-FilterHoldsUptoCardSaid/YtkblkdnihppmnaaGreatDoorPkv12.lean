/- Parts of this work, one behind the other: FiltW4, FiltQ, FiltR, FiltY, FiltYb, FiltYc, FiltS, FiltT, Rfb. -/
import Derived.Deep.CutRange
import Derived.Test.YtkblkdnihppmnaaGreatDoorPkv8
import Derived.Test.YtkblkdnihppmnaaGreatDoorPkv9
import Derived.Test.YtkblkdnihppmnaaGreatDoorPkv10
import Derived.Test.YtkblkdnihppmnaaGreatDoorPkv11
import Derived.Test.YtkblkdnihppmnaaGreatDoorPkv0
import Derived.Test.YtkblkdnihppmnaaGreatDoorPkv1
/- Filters (layer 21): the program's tokens (walk, fourth part: next, as the chapter's token tells). -/
namespace Go.Proofs.YtkblkdnihppmnaaGreatDoor
set_option linter.unusedSimpArgs false
set_option linter.unusedVariables false
open Go.RowKit Res Filt

def kindN : TK → Int
  | .ended => 0
  | .word => 1
  | .digits => 2
  | .quoted => 3
  | .mark => 4
  | .bad => 5
theorem drop_cons {s : List UInt8} {i : Nat} {c : UInt8} (h : s[i]? = some c) : s.drop i = c :: s.drop (i + 1) := by
  obtain ⟨hi, rfl⟩ := List.getElem?_eq_some_iff.1 h
  exact List.drop_eq_getElem_cons hi
/-- the token at p, by its byte -/
theorem lex_of {s : List UInt8} {p : Nat} {c : UInt8} (h : s[startOf s p]? = some c) : lex s p = ⟨(lexCons c (s.drop (startOf s p + 1))).1, startOf s p, startOf s p + (lexCons c (s.drop (startOf s p + 1))).2⟩ := by
  unfold lex
  rw [drop_cons h]
  rfl
/-- the program's next -/
def NextPost (S : Nat → Prop) (s : List UInt8) (p g : Nat) (d : Int) (w : World) (e : Ending) (w' : World) : Prop :=
  ((lex s p).kind ≠ .bad ∧ e = .returned (.tuple #[]) ∧ Mem S w [rd g s (lex s p).next (kindN (lex s p).kind) (lex s p).at_ (textOf s (lex s p)) d] w') ∨
  ((lex s p).kind = .bad ∧ e = .panicked (faultAt (lex s p).at_) ∧ ∃ cs, Mem S w [bx g 49 cs] w')
theorem next_any (s : List UInt8) (hs : s.length ≤ 1048576) (p : Nat) (hp : p ≤ s.length) {S : Nat → Prop} {g : Nat} {k0 t0 d : Int} {ts : List UInt8} {w : World} (M : Mem S w [rd g s p k0 t0 ts d] w) (hNv : Nv w) (hS : ∀ b, b < Tryz.prog.globals.size → S b) :
    Calls Tryz.prog 16 #[.pointer (some ⟨g, 0, none⟩)] w (NextPost S s p g d w) := by
  have hi : startOf s p ≤ s.length := start_le hp
  obtain ⟨i, hie⟩ : ∃ i, startOf s p = i := ⟨_, rfl⟩
  -- the two ends
  have ok : ∀ {k : TK} {j : Nat} {tx : List UInt8}, lex s p = ⟨k, i, j⟩ → k ≠ .bad → tx = (s.drop i).take (j - i) → Calls Tryz.prog 16 #[.pointer (some ⟨g, 0, none⟩)] w (fun e w' => e = .returned (.tuple #[]) ∧ Mem S w [rd g s (j : Int) (kindN k) i tx d] w') → Calls Tryz.prog 16 #[.pointer (some ⟨g, 0, none⟩)] w (NextPost S s p g d w) := by
    intro k j tx hl hk htx h
    refine h.mono fun e w' ⟨h1, h2⟩ => .inl ?_
    unfold textOf
    rw [hl]
    subst htx
    exact ⟨hk, h1, h2⟩
  have no : ∀ {j : Nat}, lex s p = ⟨.bad, i, j⟩ → Calls Tryz.prog 16 #[.pointer (some ⟨g, 0, none⟩)] w (fun e w' => e = .panicked (faultAt i) ∧ ∃ cs, Mem S w [bx g 49 cs] w') → Calls Tryz.prog 16 #[.pointer (some ⟨g, 0, none⟩)] w (NextPost S s p g d w) := by
    intro j hl h
    refine h.mono fun e w' ⟨h1, h2⟩ => .inr ?_
    rw [hl]
    exact ⟨rfl, h1, h2⟩
  rcases Nat.lt_or_ge i s.length with hlt | hge
  · obtain ⟨c, hc⟩ : ∃ c, s[i]? = some c := ⟨_, List.getElem?_eq_getElem hlt⟩
    have hL := lex_of (p := p) (by rw [hie]; exact hc)
    rw [hie] at hL
    have hr : (s.drop (i + 1)).length = s.length - (i + 1) := List.length_drop
    by_cases h1 : isSmall c = true
    · have e : lexCons c (s.drop (i + 1)) = (.word, runLen isAln (s.drop (i + 1)) + 1) := if_pos h1
      rw [e] at hL
      have := next_word s hs p hp i hie c hc h1 (i + (runLen isAln (s.drop (i + 1)) + 1)) (by omega) M
      exact ok hL (by simp) rfl this
    have h1 : isSmall c = false := by simpa using h1
    have hn1 : ¬ isSmall c = true := by simp [h1]
    by_cases h2 : (isDigit c || c.toNat == 45) = true
    · have e : lexCons c (s.drop (i + 1)) = (if (numOf (c :: (s.drop (i + 1)).take (runLen isDigit (s.drop (i + 1))))).isSome then .digits else .bad, runLen isDigit (s.drop (i + 1)) + 1) := by
        unfold lexCons
        rw [if_neg hn1, if_pos h2]
      rw [e] at hL
      obtain ⟨n, hn⟩ : ∃ n, runLen isDigit (s.drop (i + 1)) = n := ⟨_, rfl⟩
      have hj : i + 1 + runLen isDigit (s.drop (i + 1)) = i + (n + 1) := by rw [hn]; omega
      have etx : c :: (s.drop (i + 1)).take n = (s.drop i).take (i + (n + 1) - i) := by
        rw [drop_cons hc, show i + (n + 1) - i = n + 1 by omega]
        rfl
      rw [hn, etx] at hL
      rw [← num_same] at hL
      have hdig : isDigit c = true ∨ (isDigit c = false ∧ c.toNat = 45) := by
        cases hd : isDigit c
        · rw [hd] at h2; exact .inr ⟨rfl, by simpa using h2⟩
        · exact .inl rfl
      cases hp' : Lib.parseIntB 64 ((s.drop i).take (i + (n + 1) - i)) with
      | ok v =>
        by_cases he : Lib.itoa v = (s.drop i).take (i + (n + 1) - i)
        · have en : numP ((s.drop i).take (i + (n + 1) - i)) = some v := by unfold numP; rw [hp']; exact if_pos he
          rw [en] at hL
          refine ok hL (by simp) rfl ?_
          rcases hdig with hd | ⟨hd, h45⟩
          · exact next_digit_ok s hs p hp i hie c hc h1 hd _ hj v hp' he M hNv hS
          · exact next_minus_ok s hs p hp i hie c hc h1 hd h45 _ hj v hp' he M hNv hS
        · have en : numP ((s.drop i).take (i + (n + 1) - i)) = none := by unfold numP; rw [hp']; exact if_neg he
          rw [en] at hL
          refine no hL ?_
          rcases hdig with hd | ⟨hd, h45⟩
          · exact next_digit_bad s hs p hp i hie c hc h1 hd _ hj v hp' he M hNv hS
          · exact next_minus_bad s hs p hp i hie c hc h1 hd h45 _ hj v hp' he M hNv hS
      | _ =>
        have en : numP ((s.drop i).take (i + (n + 1) - i)) = none := by unfold numP; rw [hp']
        rw [en] at hL
        refine no hL ?_
        rcases hdig with hd | ⟨hd, h45⟩
        · exact next_digit_no s hs p hp i hie c hc h1 hd _ hj (fun v => by rw [hp']; simp) M hNv hS
        · exact next_minus_no s hs p hp i hie c hc h1 hd h45 _ hj (fun v => by rw [hp']; simp) M hNv hS
    have h2a : isDigit c = false := by
      cases hd : isDigit c
      · rfl
      · rw [hd] at h2; exact (h2 rfl).elim
    have h45 : c.toNat ≠ 45 := by
      intro h
      rw [h] at h2
      simp at h2
    by_cases h3 : c.toNat = 34
    · have e : lexCons c (s.drop (i + 1)) = (if runLen notQuote (s.drop (i + 1)) < (s.drop (i + 1)).length ∧ runLen notQuote (s.drop (i + 1)) ≤ 64 then (.quoted, runLen notQuote (s.drop (i + 1)) + 2) else (.bad, 0)) := by
        unfold lexCons
        rw [if_neg hn1, if_neg h2, if_pos h3]
      rw [e] at hL
      obtain ⟨n, hn⟩ : ∃ n, runLen notQuote (s.drop (i + 1)) = n := ⟨_, rfl⟩
      rw [hn] at hL
      by_cases hnl : n < (s.drop (i + 1)).length
      · by_cases hn64 : n ≤ 64
        · rw [if_pos ⟨hnl, hn64⟩] at hL
          have ej : i + 1 + (n + 1) = i + (n + 2) := by omega
          have := next_quoted s hs p hp i hie c hc h1 h2a h3 n hn hnl hn64 M
          rw [ej] at this
          exact ok hL (by simp) rfl this
        · rw [if_neg (fun x => hn64 x.2)] at hL
          exact no hL (next_quoted_long s hs p hp i hie c hc h1 h2a h3 n hn hnl hn64 M)
      · rw [if_neg (fun x => hnl x.1)] at hL
        exact no hL (next_quoted_none s hs p hp i hie c hc h1 h2a h3 (by rw [hn]; exact hnl) M)
    by_cases h4 : c.toNat = 40 ∨ c.toNat = 41 ∨ c.toNat = 61
    · have e : lexCons c (s.drop (i + 1)) = (.mark, 1) := by
        unfold lexCons
        rw [if_neg hn1, if_neg h2, if_neg h3, if_pos h4]
      rw [e] at hL
      exact ok hL (by simp) rfl (next_mark1 s hs p hp i hie c hc h1 h2a h4 M)
    by_cases h5 : c.toNat = 33 ∨ c.toNat = 60 ∨ c.toNat = 62
    · have e : lexCons c (s.drop (i + 1)) = (if (s.drop (i + 1)).head? = some 61 then (.mark, 2) else if c.toNat = 33 then (.bad, 1) else (.mark, 1)) := by
        unfold lexCons
        rw [if_neg hn1, if_neg h2, if_neg h3, if_neg h4, if_pos h5]
      rw [e, List.head?_drop] at hL
      rcases Nat.lt_or_ge (i + 1) s.length with hl2 | hl2
      · obtain ⟨c2, hc2⟩ : ∃ c2, s[i + 1]? = some c2 := ⟨_, List.getElem?_eq_getElem hl2⟩
        rw [hc2] at hL
        by_cases h61 : c2.toNat = 61
        · have e61 : c2 = 61 := UInt8.toNat_inj.1 h61
          rw [if_pos (by rw [e61])] at hL
          exact ok hL (by simp) rfl (next_mark2 s hs p hp i hie c hc h1 h2a h5 c2 hc2 h61 M)
        · rw [if_neg (by intro x; apply h61; have : c2 = 61 := by simpa using x
                         rw [this]; rfl)] at hL
          by_cases h33 : c.toNat = 33
          · rw [if_pos h33] at hL
            exact no hL (next_mark2_other_bad s hs p hp i hie c hc h1 h2a c2 hc2 h61 h33 M)
          · rw [if_neg h33] at hL
            exact ok hL (by simp) rfl (next_mark2_other s hs p hp i hie c hc h1 h2a h5 c2 hc2 h61 h33 M)
      · rw [List.getElem?_eq_none hl2, if_neg (by simp)] at hL
        by_cases h33 : c.toNat = 33
        · rw [if_pos h33] at hL
          exact no hL (next_mark2_end_bad s hs p hp i hie c hc h1 h2a hl2 h33 M)
        · rw [if_neg h33] at hL
          exact ok hL (by simp) rfl (next_mark2_end s hs p hp i hie c hc h1 h2a h5 hl2 h33 M)
    · have e : lexCons c (s.drop (i + 1)) = (.bad, 1) := by
        unfold lexCons
        rw [if_neg hn1, if_neg h2, if_neg h3, if_neg h4, if_neg h5]
      rw [e] at hL
      exact no hL (next_none s hs p hp i hie c hc h1 h2a h45 h3 h4 h5 M)
  · have hL : lex s p = ⟨.ended, i, i⟩ := by
      unfold lex
      rw [hie, List.drop_eq_nil_of_le hge]
      rfl
    refine ok hL (by simp) ?_ (next_ended s hs p hp i hie (by omega) M)
    rw [Nat.sub_self, List.take_zero]
end Go.Proofs.YtkblkdnihppmnaaGreatDoor
/- Filters (layer 21): the program's parser (walk, first part): place, is, fail. -/
namespace Go.Proofs.YtkblkdnihppmnaaGreatDoor
set_option linter.unusedSimpArgs false
set_option linter.unusedVariables false
open Go.RowKit Res Filt

theorem idx_at {x : List UInt8} : ∀ (fs : List (List UInt8)) (k : Nat), fs[k]? = some x → x ∉ fs.take k → fs.idxOf x = k
  | [], k, h, _ => by simp at h
  | f :: fs, 0, h, _ => by cases h; exact List.idxOf_cons_self
  | f :: fs, k + 1, h, hn => by
    simp only [List.take_succ_cons, List.mem_cons, not_or] at hn
    have hf : (f == x) = false := by simpa using fun e => hn.1 e.symm
    rw [List.idxOf_cons, hf, cond_false, idx_at fs k (by simpa using h) hn.2]
def placeOf (fs : List (List UInt8)) (x : List UInt8) : Int := if fs.idxOf x < fs.length then fs.idxOf x else -1
theorem fields_any (l : List UInt8) (fs : List (List UInt8)) (hl : l.length ≤ 1048576) (hasc : ∀ (j : Nat) b, l[j]? = some b → b.toNat < 128) (hf : Lib.fields l = fs) (w : World) (hN : Nv w) :
    Calls Tryz.prog 78 #[str l] w fun e w' => ∃ g, e = .returned (.slice (some ⟨g, 0, none⟩) fs.length fs.length) ∧ Ext w w' ∧ w.heap.size ≤ g ∧ Box w' g 9 (fs.map str).toArray := by
  refine (Tryz.strings_Fields ⟨l.toArray⟩ w (by show l.toArray.size < _; simp; omega) (by simpa using hasc) hN.sp).mono fun e w' ⟨h1, h2⟩ => ?_
  have e1 : Lib.fields (⟨l.toArray⟩ : ByteArray).data.toList = fs := by rw [← hf]
  rw [e1] at h1 h2
  refine ⟨_, h1, ?_, Nat.le_refl _, ?_⟩
  · rw [h2]; exact Ext.al _ _
  · rw [h2]; exact Box.new _ _ _
set_option maxRecDepth 100000 in
set_option maxHeartbeats 800000 in
theorem place_any (l : List UInt8) (fs : List (List UInt8)) (x : List UInt8) (hl : l.length ≤ 1048576) (hasc : ∀ (j : Nat) b, l[j]? = some b → b.toNat < 128) (hf : Lib.fields l = fs) (hn : fs.length ≤ 1000) (w : World) (hN : Nv w) :
    Calls Tryz.prog 72 #[str l, str x] w fun e w' => e = .returned (fi (placeOf fs x)) ∧ Ext w w' := by
  have M := Mem.start w
  have HF := Lib.hid (fields_any l fs hl hasc hf w hN)
  obtain ⟨res, hres⟩ : ∃ res, placeOf fs x = res := ⟨_, rfl⟩
  rw [hres]
  have HR := Lib.hid hres
  clear hres hasc hf hl hN
  go_enter Tryz.func72, Tryz.ntmps72
  (try dsimp only); (repeat (first | (first | (go_at_call 78; (with_reducible refine (HF.out).mono ?_); rintro _ w1 ⟨g, rfl, hX, hgz, hB⟩; replace M := M.ext hX; clear hX; dsimp only) | ((with_reducible refine on_load ?_); (first | refine xl1 M ?_ | refine xlN M ?_); go_big_move)) | go_values | go_skip | go_guarded | go_step | go_upon))
  obtain ⟨gB, hgB⟩ : ∃ x, x = g := ⟨_, rfl⟩
  subst hgB
  have HB := Lib.hid hB
  clear hB
  go_loop [10] (fun i => ∃ k : Nat, k ≤ fs.length ∧ i = fi (k : Int) ∧ Hid (x ∉ fs.take k)) (fun i => fs.length - (intOf i).toNat)
  case atStart => exact ⟨0, by omega, rfl, Lib.hid (by simp)⟩
  case round =>
    obtain ⟨k, hk, rfl, hh⟩ := hrel
    by_cases hlt : k < fs.length
    · have q1 : decide ((k : Int) < (fs.length : Int)) = true := by simp; omega
      obtain ⟨y, hy⟩ : ∃ y, fs[k]? = some y := ⟨_, List.getElem?_eq_getElem hlt⟩
      have hc : w1.cell? ⟨gB, k, none⟩ = some (str y) := by rw [HB.out.cell]; simp [hy]
      have HC := Lib.hid hc
      have hwk : IntKind.i64.wrap ((k : Int) + 1) = (k : Int) + 1 := IntWalk.i64_in _ (by omega)
      clear hc
      by_cases hxy : y = x
      · have q2 : (y == x) = true := by simpa using hxy
        have HN : Hid (res = (k : Int)) := Lib.hid (by
          rw [← HR.out]
          unfold placeOf
          rw [idx_at fs k (by rw [hy, hxy]) hh.out, if_pos hlt])
        clear hxy hy hh
        (try dsimp only); (repeat (first | (first | ((with_reducible refine on_load ?_); refine xlC HC.out ?_; go_big_move) | ((with_reducible refine on_load ?_); (first | refine xl1 M ?_ | refine xlN M ?_); go_big_move)) | go_values | go_skip | go_guarded | go_step | go_upon))
        rw [HN.out]
        exact ret_m1 rfl (Out.tmp rfl) rfl ⟨rfl, M.ext_of⟩
      · have q2 : (y == x) = false := by simpa using hxy
        have HN : Hid (x ∉ fs.take (k + 1)) := Lib.hid (by
          rw [List.take_add_one, hy]
          simp only [Option.toList_some, List.mem_append, List.mem_singleton, not_or]
          exact ⟨hh.out, fun e => hxy e.symm⟩)
        clear hxy hy hh
        (try dsimp only); (repeat (first | (first | ((with_reducible refine on_load ?_); refine xlC HC.out ?_; go_big_move) | ((with_reducible refine on_load ?_); (first | refine xl1 M ?_ | refine xlN M ?_); go_big_move)) | go_values | go_skip | go_guarded | go_step | go_upon))
        exact ⟨⟨k + 1, by omega, by go_num, HN⟩, by simp [intOf]; omega⟩
    · have q1 : decide ((k : Int) < (fs.length : Int)) = false := by simp; omega
      have HN : Hid (res = -1) := Lib.hid (by
        have e : fs.take k = fs := List.take_of_length_le (by omega)
        have h := hh.out
        rw [e] at h
        rw [← HR.out]
        unfold placeOf
        rw [if_neg (by rw [List.idxOf_eq_length h]; omega)])
      clear hh
      (try dsimp only); (repeat (first | (first | ((with_reducible refine on_load ?_); (first | refine xl1 M ?_ | refine xlN M ?_); go_big_move)) | go_values | go_skip | go_guarded | go_step | go_upon))
      rw [HN.out]
      exact ret_m1 rfl (Out.tmp rfl) rfl ⟨rfl, M.ext_of⟩
set_option maxRecDepth 100000 in
set_option maxHeartbeats 800000 in
theorem is_any (g : Nat) (k : TK) (ts x : List UInt8) (w : World) (h2 : w.cell? ⟨g, 2, none⟩ = some (fi (kindN k))) (h4 : w.cell? ⟨g, 4, none⟩ = some (str ts)) :
    Calls Tryz.prog 38 #[.pointer (some ⟨g, 0, none⟩), str x] w fun e w' => e = .returned (.bool (decide ((k = .word ∨ k = .mark) ∧ ts = x))) ∧ w = w' := by
  have M := Mem.start w
  have H2 := Lib.hid h2
  have H4 := Lib.hid h4
  clear h2 h4
  have e : decide (ts = x) = (ts == x) := by rw [Bool.eq_iff_iff]; simp
  cases k
  all_goals
    simp only [reduceCtorEq, false_or, or_false, true_and, false_and, decide_false, or_self, true_or, or_true, e]
    dsimp only [kindN] at H2
    go_enter Tryz.func38, Tryz.ntmps38
    (try dsimp only); (repeat (first | (first | ((with_reducible refine on_load ?_); refine xlC H2.out ?_; go_big_move) | ((with_reducible refine on_load ?_); refine xlC H4.out ?_; go_big_move) | ((with_reducible refine wl_g ?_); first | go_big_want | go_skip | ((with_reducible refine wl_off (by kernel_rfl) ?_); (first | ((with_reducible refine fastK Tryz.prog rfl ?_); go_big_move) | (with_reducible refine fastN rfl ?_) | skip))) | ((with_reducible refine on_load ?_); (first | refine xl1 M ?_ | refine xlN M ?_); go_big_move)) | go_values | go_skip | go_guarded | go_step | go_upon))
    exact ret_m1 rfl (Out.tmp rfl) rfl ⟨rfl, rfl⟩
set_option maxRecDepth 100000 in
set_option maxHeartbeats 800000 in
theorem fail_any (g : Nat) (i : Int) (w : World) (h3 : w.cell? ⟨g, 3, none⟩ = some (fi i)) :
    Calls Tryz.prog 18 #[.pointer (some ⟨g, 0, none⟩)] w fun e w' => e = .panicked (faultAt i) ∧ w = w' := by
  have M := Mem.start w
  have H3 := Lib.hid h3
  clear h3
  go_enter Tryz.func18, Tryz.ntmps18
  (try dsimp only); (repeat (first | (first | ((with_reducible refine on_load ?_); refine xlC H3.out ?_; go_big_move) | ((with_reducible refine on_load ?_); (first | refine xl1 M ?_ | refine xlN M ?_); go_big_move)) | go_values | go_skip | go_guarded | go_step | go_upon))
  exact ⟨rfl, rfl, rfl⟩
end Go.Proofs.YtkblkdnihppmnaaGreatDoor
/- Filters (layer 21): the program's parser (walk, second part): what its functions hand back; the next token. -/
namespace Go.Proofs.YtkblkdnihppmnaaGreatDoor
set_option linter.unusedSimpArgs false
set_option linter.unusedVariables false
open Go.RowKit Res Filt

/-- a filter's part as the program has it -/
def ndV : Nd → Value
  | .num f k n => .iface 119 (.agg #[str (fieldNames.getD f []), str (askNames.getD k []), fi n])
  | .idt k t => .iface 117 (.agg #[str (askNames.getD k []), str t])
  | .not n => .iface 102 (.agg #[ndV n])
  | .all a b => .iface 87 (.agg #[ndV a, ndV b])
  | .any a b => .iface 80 (.agg #[ndV a, ndV b])
/-- the reader, the token at p at hand -/
abbrev rp (g : Nat) (s : List UInt8) (p : Nat) (d : Int) : Res := rd g s ((lex s p).next : Nat) (kindN (lex s p).kind) ((lex s p).at_ : Nat) (textOf s (lex s p)) d
theorem Mem.re {S : Nat → Prop} {w0 w : World} {l : List Res} (M : Mem S w0 l w) : Mem S w l w := ⟨Fr.refl w, fun x h => Nat.lt_of_lt_of_le (M.lo x h) M.fr.size, M.all, M.out, M.apart⟩
theorem Mem.on {S : Nat → Prop} {w0 w w' : World} {l l' : List Res} (M : Mem S w0 l w) (M' : Mem S w l' w') : Mem S w0 l' w' := ⟨M.fr.trans M'.fr, M.lo, M'.all, M'.out, M'.apart⟩
def NxPost (S : Nat → Prop) (s : List UInt8) (g p : Nat) (d : Int) (w0 : World) (e : Ending) (w' : World) : Prop :=
  ((lang s).adv true p = .ok (lex s p).next ∧ (lex s p).next ≤ s.length ∧ (lex s (lex s p).next).kind ≠ .bad ∧ e = .returned (.tuple #[]) ∧ Mem S w0 [rp g s (lex s p).next d] w') ∨
  ((lang s).adv true p = .error (lex s (lex s p).next).at_ ∧ e = .panicked (faultAt ((lex s (lex s p).next).at_ : Nat)) ∧ ∃ cs, Mem S w0 [bx g 49 cs] w')
theorem next_rp (s : List UInt8) (hs : s.length ≤ 1048576) {S : Nat → Prop} {g p : Nat} {d : Int} {w0 w : World} (hp : p ≤ s.length) (hb : (lex s p).kind ≠ .bad) (M : Mem S w0 [rp g s p d] w) (hN : Nv w0) (hS : ∀ b, b < Tryz.prog.globals.size → S b) :
    Calls Tryz.prog 16 #[.pointer (some ⟨g, 0, none⟩)] w (NxPost S s g p d w0) := by
  refine (next_any s hs (lex s p).next (next_le hp hb).2 M.re (hN.mem hS M) hS).mono fun e w' h => ?_
  rcases h with ⟨h1, h2, h3⟩ | ⟨h1, h2, cs, h3⟩
  · refine .inl ⟨?_, (next_le hp hb).2, h1, h2, M.on h3⟩
    show advG (isBad s) (nextOf s) (atOf s) true p = _
    unfold advG
    exact if_neg (fun x => h1 x.2)
  · refine .inr ⟨?_, h2, cs, M.on h3⟩
    show advG (isBad s) (nextOf s) (atOf s) true p = _
    unfold advG
    exact if_pos ⟨rfl, h1⟩
def RdPost (S : Nat → Prop) (s : List UInt8) (g : Nat) (d : Int) (w0 : World) : Filt.Res → Ending → World → Prop
  | .ok n q, e, w' => e = .returned (ndV n) ∧ q ≤ s.length ∧ (lex s q).kind ≠ .bad ∧ Mem S w0 [rp g s q d] w'
  | .fail a, e, w' => e = .panicked (faultAt (a : Nat)) ∧ ∃ cs, Mem S w0 [bx g 49 cs] w'
def At (f : FuncId) (nt : NT) (s : List UInt8) (d : Nat) : Prop :=
  ∀ (S : Nat → Prop) (g p : Nat) (w0 w : World), p ≤ s.length → (lex s p).kind ≠ .bad → Mem S w0 [rp g s p (d : Int)] w → Nv w0 → (∀ b, b < Tryz.prog.globals.size → S b) →
    Calls Tryz.prog f #[.pointer (some ⟨g, 0, none⟩)] w fun e w' => ∃ r, Reads (lang s) true nt d p r ∧ RdPost S s g (d : Int) w0 r e w'
instance isWordDec (s : List UInt8) (p : Nat) (x : List UInt8) : Decidable (isWord s p x) := inferInstanceAs (Decidable (((lex s p).kind = .word ∨ (lex s p).kind = .mark) ∧ textOf s (lex s p) = x))
theorem is_rp (s x : List UInt8) {S : Nat → Prop} {g p : Nat} {d : Int} {w0 w : World} (M : Mem S w0 [rp g s p d] w) (b : Bool) (hb : decide (isWord s p x) = b) :
    Calls Tryz.prog 38 #[.pointer (some ⟨g, 0, none⟩), str x] w fun e w' => e = .returned (.bool b) ∧ w = w' := by
  have e : decide (isWord s p x) = decide (((lex s p).kind = .word ∨ (lex s p).kind = .mark) ∧ textOf s (lex s p) = x) := rfl
  rw [← hb, e]
  exact is_any g _ _ x w (M.at_ pk 2 _ rfl) (M.at_ pk 4 _ rfl)
end Go.Proofs.YtkblkdnihppmnaaGreatDoor
/- Filters (layer 21): what a part holds of (walk, first part): compares. -/
namespace Go.Proofs.YtkblkdnihppmnaaGreatDoor
set_option linter.unusedSimpArgs false
set_option linter.unusedVariables false
open Go.RowKit Res Filt

/-- whether what is compared stands so -/
def cmpAsk : Nat → Int → Bool
  | 0, o => o == 0
  | 1, o => o != 0
  | 2, o => decide (o < 0)
  | 3, o => decide (o ≤ 0)
  | 4, o => decide (0 < o)
  | _, o => decide (0 ≤ o)
set_option maxRecDepth 100000 in
set_option maxHeartbeats 800000 in
theorem compares_any (k : Nat) (hk : k < 6) (o : Int) (w : World) : Calls Tryz.prog 131 #[str (askNames.getD k []), fi o] w fun e w' => e = .returned (.bool (cmpAsk k o)) ∧ w = w' := by
  have M := Mem.start w
  match k, hk with
  | 0, _ =>
    show Calls Tryz.prog 131 #[.string ⟨#[61]⟩, fi o] w _
    go_enter Tryz.func131, Tryz.ntmps131
    (try dsimp only); (repeat (first | (first | fail) | go_values | go_skip | go_guarded | go_step | go_upon))
    exact ret_m1 rfl (Out.tmp rfl) rfl ⟨rfl, rfl⟩
  | 1, _ =>
    show Calls Tryz.prog 131 #[.string ⟨#[33, 61]⟩, fi o] w _
    go_enter Tryz.func131, Tryz.ntmps131
    (try dsimp only); (repeat (first | (first | fail) | go_values | go_skip | go_guarded | go_step | go_upon))
    exact ret_m1 rfl (Out.tmp rfl) rfl ⟨rfl, rfl⟩
  | 2, _ =>
    show Calls Tryz.prog 131 #[.string ⟨#[60]⟩, fi o] w _
    go_enter Tryz.func131, Tryz.ntmps131
    (try dsimp only); (repeat (first | (first | fail) | go_values | go_skip | go_guarded | go_step | go_upon))
    exact ret_m1 rfl (Out.tmp rfl) rfl ⟨rfl, rfl⟩
  | 3, _ =>
    show Calls Tryz.prog 131 #[.string ⟨#[60, 61]⟩, fi o] w _
    go_enter Tryz.func131, Tryz.ntmps131
    (try dsimp only); (repeat (first | (first | fail) | go_values | go_skip | go_guarded | go_step | go_upon))
    exact ret_m1 rfl (Out.tmp rfl) rfl ⟨rfl, rfl⟩
  | 4, _ =>
    show Calls Tryz.prog 131 #[.string ⟨#[62]⟩, fi o] w _
    go_enter Tryz.func131, Tryz.ntmps131
    (try dsimp only); (repeat (first | (first | fail) | go_values | go_skip | go_guarded | go_step | go_upon))
    exact ret_m1 rfl (Out.tmp rfl) rfl ⟨rfl, rfl⟩
  | 5, _ =>
    show Calls Tryz.prog 131 #[.string ⟨#[62, 61]⟩, fi o] w _
    go_enter Tryz.func131, Tryz.ntmps131
    (try dsimp only); (repeat (first | (first | fail) | go_values | go_skip | go_guarded | go_step | go_upon))
    exact ret_m1 rfl (Out.tmp rfl) rfl ⟨rfl, rfl⟩
end Go.Proofs.YtkblkdnihppmnaaGreatDoor
/- Filters (layer 21): what a part holds of (walk, third part): the id. -/
namespace Go.Proofs.YtkblkdnihppmnaaGreatDoor
set_option linter.unusedSimpArgs false
set_option linter.unusedVariables false
open Go.RowKit Res Filt

theorem compare_any (a b : List UInt8) (w : World) : Calls Tryz.prog 132 #[str a, str b] w fun e w' => e = .returned (fi (Lib.compareBytes a b)) ∧ w = w' :=
  (Tryz.strings_Compare ⟨a.toArray⟩ ⟨b.toArray⟩ w).mono fun e w' ⟨h1, h2⟩ => ⟨h1, h2.symm⟩
set_option maxRecDepth 100000 in
set_option maxHeartbeats 800000 in
theorem named_calls (k : Nat) (hk : k < 6) (t ids : List UInt8) (k0 k1 k2 k4 k5 k6 k7 k8 k9 k10 k11 k12 k13 k14 k15 k16 : Value) (w : World) :
    Calls Tryz.prog 128 #[.agg #[str (askNames.getD k []), str t], .agg #[k0, k1, k2, str ids, k4, k5, k6, k7, k8, k9, k10, k11, k12, k13, k14, k15, k16]] w fun e w' => e = .returned (.bool (cmpAsk k (Lib.compareBytes ids t))) ∧ Ext w w' := by
  have M := Mem.start w
  have HC := Lib.hid (compare_any ids t)
  have HS := Lib.hid (fun w => compares_any k hk (Lib.compareBytes ids t) w)
  generalize askNames.getD k [] = ask at HS ⊢
  generalize Lib.compareBytes ids t = o at HC HS ⊢
  generalize cmpAsk k o = r at HS ⊢
  clear hk
  go_enter Tryz.func128, Tryz.ntmps128
  (try dsimp only); (repeat (first | (first | ((with_reducible refine on_region 1 ?_); refine wp_region_keep M [2, 3] 9 [(0, true), (1, true), (2, true), (3, true), (4, true), (5, true), (6, false), (7, false), (8, true)] (by kernel_rfl) (by kernel_rfl) (fun _ _ d _ _ h => by cases d <;> exact h) ?_; clear M; intro w' M; ((refine wpSch_q ?_ rfl rfl (fun w' hR => ?_) ?_); rotate_left; (focus (go_simp; first | rfl | rw [if_neg (by simp; omega)] | rw [if_neg (by omega)] | rw [if_pos (by omega)] | (rw [if_pos (by omega)]; simp; done))); (first | simp only [Act.put, List.setIfInBounds_toArray, List.set_cons_zero, List.set_cons_succ] | skip)); ((first | refine zl1 M 2 ?_ | refine zlN M 2 ?_); (first | simp only [Act.put, List.setIfInBounds_toArray, List.set_cons_zero, List.set_cons_succ] | skip)); ((refine wpSch_q ?_ rfl rfl (fun w' hR => ?_) ?_); rotate_left; (focus (go_simp; first | rfl | rw [if_neg (by simp; omega)] | rw [if_neg (by omega)] | rw [if_pos (by omega)] | (rw [if_pos (by omega)]; simp; done))); (first | simp only [Act.put, List.setIfInBounds_toArray, List.set_cons_zero, List.set_cons_succ] | skip)); ((first | refine zl1 M 3 ?_ | refine zlN M 3 ?_); (first | simp only [Act.put, List.setIfInBounds_toArray, List.set_cons_zero, List.set_cons_succ] | skip)); ((refine wpSch_q ?_ rfl rfl (fun w' hR => ?_) ?_); rotate_left; (focus (go_simp; first | rfl | rw [if_neg (by simp; omega)] | rw [if_neg (by omega)] | rw [if_pos (by omega)] | (rw [if_pos (by omega)]; simp; done))); (first | simp only [Act.put, List.setIfInBounds_toArray, List.set_cons_zero, List.set_cons_succ] | skip)); ((first | refine zl1 M 2 ?_ | refine zlN M 2 ?_); (first | simp only [Act.put, List.setIfInBounds_toArray, List.set_cons_zero, List.set_cons_succ] | skip)); (refine wpSch_e rfl rfl (fun K hK => ?_); go_simp; refine (HC.out _).mono ?_; rintro _ w1 ⟨rfl, rfl⟩; refine hK _ _ (fun _ => keepR.refl _) ?_; skip; clear hK K; (first | simp only [Act.put, List.setIfInBounds_toArray, List.set_cons_zero, List.set_cons_succ] | skip)); (refine wpSch_e rfl rfl (fun K hK => ?_); go_simp; refine (HS.out _).mono ?_; rintro _ w1 ⟨rfl, rfl⟩; refine hK _ _ (fun _ => keepR.refl _) ?_; skip; clear hK K; (first | simp only [Act.put, List.setIfInBounds_toArray, List.set_cons_zero, List.set_cons_succ] | skip)); ((refine wpSch_q ?_ rfl rfl (fun w' hR => ?_) ?_); rotate_left; (focus (go_simp; first | rfl | rw [if_neg (by simp; omega)] | rw [if_neg (by omega)] | rw [if_pos (by omega)] | (rw [if_pos (by omega)]; simp; done))); (first | simp only [Act.put, List.setIfInBounds_toArray, List.set_cons_zero, List.set_cons_succ] | skip)); refine wpSch_nil ?_) | ((with_reducible refine on_load ?_); (first | refine xl1 M ?_ | refine xlN M ?_); go_big_move) | ((with_reducible refine on_box ?_); refine xb M ?_; clear M; intro g w' M; go_big_move)) | go_values | go_skip | go_guarded | go_step | go_upon))
  exact ret_m1 rfl (Out.tmp rfl) rfl ⟨rfl, M.ext_of⟩
end Go.Proofs.YtkblkdnihppmnaaGreatDoor
/- Filters (layer 21): what a part holds of (walk, fourth part): the fields that are numbers. -/
namespace Go.Proofs.YtkblkdnihppmnaaGreatDoor
set_option linter.unusedSimpArgs false
set_option linter.unusedVariables false
open Go.RowKit Res Filt

theorem i64Elem : ElemOf Tryz.prog 178 2 1 8 := elemOf_mk Tryz.underlying178 (z := .int .i64 0) (by kernel_rfl) rfl (by decide)
set_option maxRecDepth 100000 in
set_option maxHeartbeats 800000 in
theorem about_fields (a0 a1 a2 a4 a5 a6 a7 a8 a9 a10 a11 a12 a13 a14 a15 a16 : Int) (id : List UInt8) (w : World) :
    Calls Tryz.prog 138 #[.agg #[fi a0, fi a1, fi a2, str id, fi a4, fi a5, fi a6, fi a7, fi a8, fi a9, fi a10, fi a11, fi a12, fi a13, fi a14, fi a15, fi a16]] w fun e w' => ∃ A c, e = .returned (.slice A 13 c) ∧ Ext w w' ∧ Own w' w.heap.size 2 (fun x : Int => [fi x]) 1 A c [a0, a1, a2, a4, a5, a6, a7, a8, a12, a13, a14, a15, a16] := by
  have M := Mem.start w
  go_enter Tryz.func138, Tryz.ntmps138
  (try dsimp only); (repeat (go_not_at_region 2; first | (first | ((with_reducible refine on_slice ?_); refine wp_slice M i64Elem _ rfl _ (by (repeat (first | exact Parts.nil | (apply Parts.cons; (first | exact CellsOf.agg _ | exact CellsOf.int _ _ | exact CellsOf.str _ | exact CellsOf.bool _ | exact CellsOf.slice _ _ _ | exact CellsOf.pointer _); rfl))); done) (by rfl) (by decide) (by decide) ?_; clear M; intro g w' M; (try simp only [List.cons_append, List.nil_append] at M); (first | ((with_reducible refine fastK Tryz.prog rfl ?_); go_big_move) | (with_reducible refine fastN rfl ?_) | skip)) | ((with_reducible refine on_load ?_); (first | refine xl1 M ?_ | refine xlN M ?_); go_big_move) | ((with_reducible refine on_box ?_); refine xb M ?_; clear M; intro g w' M; go_big_move)) | go_values | go_skip | go_guarded | go_step | go_upon))
  rename_i gA wA KA aA
  have hO : Own w' 0 2 (fun x : Int => [fi x]) 1 (some ⟨g, 0, none⟩) 9 [a0, a1, a2, a4, a5, a6, a7, a8, a12] := Own.of_block (l := [a0, a1, a2, a4, a5, a6, a7, a8, a12]) (M.box Pick.head) (Nat.zero_le _) (fun _ => rfl) (show 9 ≤ maxLen by decide)
  have hbx := M.box (g := gA) (Pick.tail Pick.head)
  have hR : Row w' 0 w'.heap.size 1 (some ⟨gA, 13, none⟩) 4 (([a13, a14, a15, a16] : List Int).flatMap fun x => [fi x]) := ⟨rfl, fun _ => ⟨gA, 13, rfl, Nat.zero_le _, hbx.lt, fun j u hu => by
    rw [hbx.cell]
    match j, hu with
    | 0, hu => exact hu
    | 1, hu => exact hu
    | 2, hu => exact hu
    | 3, hu => exact hu⟩⟩
  have M2 := M.put Pick.head (Fr.refl _) (ow 2 (fun x : Int => [fi x]) 1 (some ⟨g, 0, none⟩) 9 [a0, a1, a2, a4, a5, a6, a7, a8, a12]) hO (fun b hb => .inl (by injection hb with h; exact h.symm))
  clear M hO hbx
  have M := M2
  clear M2
  (try dsimp only); (repeat (first | (first | ((with_reducible refine on_append ?_); refine wp_appends M i64Elem _ _ rfl rfl pk (by first | with_reducible rfl | (simp; done) | (simp; omega)) ([a13, a14, a15, a16] : List Int) rfl (by first | with_reducible rfl | (simp; done) | (simp; omega)) hR (by first | (intro h; cases h; done) | (intro _; rfl)) (fun _ => rfl) (fun x u hu => by rw [List.mem_singleton] at hu; subst hu; rfl) (by first | omega | (simp; done) | (simp; omega)) (by first | omega | (simp; done) | (simp; omega)) ?_; clear M; intro A' c' w' M; (first | ((with_reducible refine fastK Tryz.prog rfl ?_); go_big_move) | (with_reducible refine fastN rfl ?_) | skip)) | ((with_reducible refine on_load ?_); (first | refine xl1 M ?_ | refine xlN M ?_); go_big_move) | ((with_reducible refine on_box ?_); refine xb M ?_; clear M; intro g w' M; go_big_move)) | go_values | go_skip | go_guarded | go_step | go_upon))
  exact ret_m1 rfl (Out.tmp rfl) rfl ⟨_, _, rfl, M.ext_of, M.own_new pk⟩
end Go.Proofs.YtkblkdnihppmnaaGreatDoor
/- Filters (layer 21): the program's parser (walk, third part): all, any. -/
namespace Go.Proofs.YtkblkdnihppmnaaGreatDoor
set_option linter.unusedSimpArgs false
set_option linter.unusedVariables false
open Go.RowKit Res Filt

theorem next_bound {s : List UInt8} {p : Nat} (hp : p ≤ s.length) (hb : (lex s p).kind ≠ .bad) : (lex s p).next ≤ s.length := (next_le hp hb).2
theorem ndV_iface (n : Nd) : ∃ t v, ndV n = .iface t v := by
  cases n <;> exact ⟨_, _, rfl⟩
set_option maxRecDepth 100000 in
set_option maxHeartbeats 800000 in
theorem all_of (s : List UInt8) (hs : s.length ≤ 1048576) (d : Nat) (hone : At 49 .one s d) : At 37 .all s d := by
  intro S g p w0 w hp hb M hN hS
  have HO : Hid (∀ (p : Nat) (w : World), p ≤ s.length → (lex s p).kind ≠ .bad → Mem S w0 [rp g s p (d : Int)] w → Calls Tryz.prog 49 #[.pointer (some ⟨g, 0, none⟩)] w fun e w' => ∃ r, Reads (lang s) true .one d p r ∧ RdPost S s g (d : Int) w0 r e w') := Lib.hid (fun p w hp hb M => hone S g p w0 w hp hb M hN hS)
  have HX : Hid (∀ (p : Nat) (w : World), p ≤ s.length → (lex s p).kind ≠ .bad → Mem S w0 [rp g s p (d : Int)] w → Calls Tryz.prog 16 #[.pointer (some ⟨g, 0, none⟩)] w (NxPost S s g p (d : Int) w0)) := Lib.hid (fun p w hp hb M => next_rp s hs hp hb M hN hS)
  have HI : Hid (∀ (p : Nat) (w : World) (b : Bool), Mem S w0 [rp g s p (d : Int)] w → decide (isWord s p wAnd) = b → Calls Tryz.prog 38 #[.pointer (some ⟨g, 0, none⟩), .string ⟨#[97, 110, 100]⟩] w fun e w' => e = .returned (.bool b) ∧ w = w') := Lib.hid (fun p w b M h => is_rp s wAnd M b h)
  clear hone hN hS
  go_enter Tryz.func37, Tryz.ntmps37
  (try dsimp only); (repeat (first | (first | (go_at_call 49; (with_reducible refine (HO.out _ _ hp hb M).mono ?_); rintro _ w1 ⟨r, hr, hx⟩; rcases r with ⟨n, q⟩ | ⟨a⟩; rotate_left; (focus (obtain ⟨rfl, cs, M1⟩ := hx; exact ⟨rfl, _, Reads.allFail hr, rfl, cs, M1⟩)); obtain ⟨rfl, hq, hbq, M1⟩ := hx; replace M := M1; clear M1; dsimp only)) | go_values | go_skip | go_guarded | go_step | go_upon))
  have HP := Lib.hid (show ∀ r, Reads (lang s) true (.allMore n) d q r → Reads (lang s) true .all d p r from fun r h => Reads.allOk hr h)
  clear hr
  go_loopw [3] (fun x wr => ∃ (acc : Nd) (q : Nat), x = ndV acc ∧ q ≤ s.length ∧ (lex s q).kind ≠ .bad ∧ Hid (∀ r, Reads (lang s) true (.allMore acc) d q r → Reads (lang s) true .all d p r) ∧ Mem S w0 [rp g s q (d : Int)] wr) (fun _ wr => s.length - (intOf ((wr.cell? ⟨g, 1, none⟩).getD undef)).toNat)
  · exact ⟨n, q, rfl, hq, hbq, HP, M⟩
  · clear M HP hq hbq
    obtain ⟨acc, q, rfl, hq, hbq, HP, M⟩ := hrel
    by_cases hw : isWord s q wAnd
    · have HW := Lib.hid (decide_eq_true hw)
      obtain ⟨t1, v1, e1⟩ := ndV_iface acc
      rw [e1]
      have E1 := Lib.hid e1
      clear e1
      have hc1 : wr.cell? ⟨g, 1, none⟩ = some (fi ((lex s q).next : Nat)) := M.at_ pk 1 _ rfl
      (try dsimp only); (repeat (first | (first | (go_at_call 38; (with_reducible refine (HI.out _ _ _ M HW.out).mono ?_); rintro _ w1 ⟨rfl, rfl⟩; dsimp only) | (go_at_call 16; (with_reducible refine (HX.out _ _ hq hbq M).mono ?_); rintro _ w2 hx; rcases hx with ⟨ha, hq2, hbq2, rfl, M1⟩ | ⟨ha, rfl, cs, M1⟩; rotate_left; (focus (exact ⟨rfl, _, HP.out _ (Reads.allBad hw ha), rfl, cs, M1⟩)); replace M := M1; clear M1; dsimp only) | (go_at_call 49; (with_reducible refine (HO.out _ _ hq2 hbq2 M).mono ?_); rintro _ w3 ⟨r, hr, hx⟩; rcases r with ⟨m, q3⟩ | ⟨a⟩; rotate_left; (focus (obtain ⟨rfl, cs, M1⟩ := hx; exact ⟨rfl, _, HP.out _ (Reads.allNo hw ha hr), rfl, cs, M1⟩)); obtain ⟨rfl, hq3, hbq3, M1⟩ := hx; replace M := M1; clear M1; dsimp only; obtain ⟨t2, v2, e2⟩ := ndV_iface m; rw [e2]; have E2 := Lib.hid e2; clear e2)) | go_values | go_skip | go_guarded | go_step | go_upon))
      refine ⟨⟨.all acc m, q3, by rw [← E1.out, ← E2.out]; rfl, hq3, hbq3, Lib.hid (fun r h => HP.out _ (Reads.allMore hw ha hr h)), M⟩, ?_⟩
      have hc3 : w3.cell? ⟨g, 1, none⟩ = some (fi ((lex s q3).next : Nat)) := M.at_ pk 1 _ rfl
      rw [hc1, hc3]
      have h1 := reads_gt hr rfl
      have h2 := next_ge (s := s) q3
      have h3 := next_bound hq3 hbq3
      simp only [NT.step, Option.getD_some, intOf, Int.toNat_natCast] at *
      omega
    · have HW := Lib.hid (decide_eq_false hw)
      (try dsimp only); (repeat (first | (first | (go_at_call 38; (with_reducible refine (HI.out _ _ _ M HW.out).mono ?_); rintro _ w1 ⟨rfl, rfl⟩; dsimp only)) | go_values | go_skip | go_guarded | go_step | go_upon))
      exact ret_m1 rfl (Out.tmp rfl) rfl ⟨_, HP.out _ (Reads.allEnd hw), rfl, hq, hbq, M⟩
set_option maxRecDepth 100000 in
set_option maxHeartbeats 800000 in
theorem any_of (s : List UInt8) (hs : s.length ≤ 1048576) (d : Nat) (hone : At 37 .all s d) : At 17 .any s d := by
  intro S g p w0 w hp hb M hN hS
  have HO : Hid (∀ (p : Nat) (w : World), p ≤ s.length → (lex s p).kind ≠ .bad → Mem S w0 [rp g s p (d : Int)] w → Calls Tryz.prog 37 #[.pointer (some ⟨g, 0, none⟩)] w fun e w' => ∃ r, Reads (lang s) true .all d p r ∧ RdPost S s g (d : Int) w0 r e w') := Lib.hid (fun p w hp hb M => hone S g p w0 w hp hb M hN hS)
  have HX : Hid (∀ (p : Nat) (w : World), p ≤ s.length → (lex s p).kind ≠ .bad → Mem S w0 [rp g s p (d : Int)] w → Calls Tryz.prog 16 #[.pointer (some ⟨g, 0, none⟩)] w (NxPost S s g p (d : Int) w0)) := Lib.hid (fun p w hp hb M => next_rp s hs hp hb M hN hS)
  have HI : Hid (∀ (p : Nat) (w : World) (b : Bool), Mem S w0 [rp g s p (d : Int)] w → decide (isWord s p wOr) = b → Calls Tryz.prog 38 #[.pointer (some ⟨g, 0, none⟩), .string ⟨#[111, 114]⟩] w fun e w' => e = .returned (.bool b) ∧ w = w') := Lib.hid (fun p w b M h => is_rp s wOr M b h)
  clear hone hN hS
  go_enter Tryz.func17, Tryz.ntmps17
  (try dsimp only); (repeat (first | (first | (go_at_call 37; (with_reducible refine (HO.out _ _ hp hb M).mono ?_); rintro _ w1 ⟨r, hr, hx⟩; rcases r with ⟨n, q⟩ | ⟨a⟩; rotate_left; (focus (obtain ⟨rfl, cs, M1⟩ := hx; exact ⟨rfl, _, Reads.anyFail hr, rfl, cs, M1⟩)); obtain ⟨rfl, hq, hbq, M1⟩ := hx; replace M := M1; clear M1; dsimp only)) | go_values | go_skip | go_guarded | go_step | go_upon))
  have HP := Lib.hid (show ∀ r, Reads (lang s) true (.anyMore n) d q r → Reads (lang s) true .any d p r from fun r h => Reads.anyOk hr h)
  clear hr
  go_loopw [3] (fun x wr => ∃ (acc : Nd) (q : Nat), x = ndV acc ∧ q ≤ s.length ∧ (lex s q).kind ≠ .bad ∧ Hid (∀ r, Reads (lang s) true (.anyMore acc) d q r → Reads (lang s) true .any d p r) ∧ Mem S w0 [rp g s q (d : Int)] wr) (fun _ wr => s.length - (intOf ((wr.cell? ⟨g, 1, none⟩).getD undef)).toNat)
  · exact ⟨n, q, rfl, hq, hbq, HP, M⟩
  · clear M HP hq hbq
    obtain ⟨acc, q, rfl, hq, hbq, HP, M⟩ := hrel
    by_cases hw : isWord s q wOr
    · have HW := Lib.hid (decide_eq_true hw)
      obtain ⟨t1, v1, e1⟩ := ndV_iface acc
      rw [e1]
      have E1 := Lib.hid e1
      clear e1
      have hc1 : wr.cell? ⟨g, 1, none⟩ = some (fi ((lex s q).next : Nat)) := M.at_ pk 1 _ rfl
      (try dsimp only); (repeat (first | (first | (go_at_call 38; (with_reducible refine (HI.out _ _ _ M HW.out).mono ?_); rintro _ w1 ⟨rfl, rfl⟩; dsimp only) | (go_at_call 16; (with_reducible refine (HX.out _ _ hq hbq M).mono ?_); rintro _ w2 hx; rcases hx with ⟨ha, hq2, hbq2, rfl, M1⟩ | ⟨ha, rfl, cs, M1⟩; rotate_left; (focus (exact ⟨rfl, _, HP.out _ (Reads.anyBad hw ha), rfl, cs, M1⟩)); replace M := M1; clear M1; dsimp only) | (go_at_call 37; (with_reducible refine (HO.out _ _ hq2 hbq2 M).mono ?_); rintro _ w3 ⟨r, hr, hx⟩; rcases r with ⟨m, q3⟩ | ⟨a⟩; rotate_left; (focus (obtain ⟨rfl, cs, M1⟩ := hx; exact ⟨rfl, _, HP.out _ (Reads.anyNo hw ha hr), rfl, cs, M1⟩)); obtain ⟨rfl, hq3, hbq3, M1⟩ := hx; replace M := M1; clear M1; dsimp only; obtain ⟨t2, v2, e2⟩ := ndV_iface m; rw [e2]; have E2 := Lib.hid e2; clear e2)) | go_values | go_skip | go_guarded | go_step | go_upon))
      refine ⟨⟨.any acc m, q3, by rw [← E1.out, ← E2.out]; rfl, hq3, hbq3, Lib.hid (fun r h => HP.out _ (Reads.anyMore hw ha hr h)), M⟩, ?_⟩
      have hc3 : w3.cell? ⟨g, 1, none⟩ = some (fi ((lex s q3).next : Nat)) := M.at_ pk 1 _ rfl
      rw [hc1, hc3]
      have h1 := reads_gt hr rfl
      have h2 := next_ge (s := s) q3
      have h3 := next_bound hq3 hbq3
      simp only [NT.step, Option.getD_some, intOf, Int.toNat_natCast] at *
      omega
    · have HW := Lib.hid (decide_eq_false hw)
      (try dsimp only); (repeat (first | (first | (go_at_call 38; (with_reducible refine (HI.out _ _ _ M HW.out).mono ?_); rintro _ w1 ⟨rfl, rfl⟩; dsimp only)) | go_values | go_skip | go_guarded | go_step | go_upon))
      exact ret_m1 rfl (Out.tmp rfl) rfl ⟨_, HP.out _ (Reads.anyEnd hw), rfl, hq, hbq, M⟩
end Go.Proofs.YtkblkdnihppmnaaGreatDoor
/- Filters (layer 21): the program's parser (walk, fourth part): one (printed by gen_t.py). -/
namespace Go.Proofs.YtkblkdnihppmnaaGreatDoor
set_option linter.unusedSimpArgs false
set_option linter.unusedVariables false
open Go.RowKit Res Filt

def TestAt (s : List UInt8) : Prop :=
  ∀ (S : Nat → Prop) (g p : Nat) (d : Int) (w0 w : World), p ≤ s.length → (lex s p).kind ≠ .bad → Mem S w0 [rp g s p d] w → Nv w0 → (∀ b, b < Tryz.prog.globals.size → S b) →
    Calls Tryz.prog 61 #[.pointer (some ⟨g, 0, none⟩)] w fun e w' => RdPost S s g d w0 ((lang s).test true p) e w'
theorem fail_rp {S : Nat → Prop} {s : List UInt8} {g : Nat} {p : Nat} {d : Int} {w0 w : World} (M : Mem S w0 [rp g s p d] w) :
    Calls Tryz.prog 18 #[.pointer (some ⟨g, 0, none⟩)] w fun e w' => e = .panicked (faultAt ((lex s p).at_ : Nat)) ∧ w = w' :=
  fail_any g _ w (M.at_ pk 3 _ rfl)
/-- what one's walk leans on -/
structure OneC (s : List UInt8) (S : Nat → Prop) (g d : Nat) (w0 : World) : Prop where
  isN : ∀ (e : Int) (p : Nat) (w : World) (b : Bool), Mem S w0 [rp g s p e] w → decide (isWord s p wNot) = b → Calls Tryz.prog 38 #[.pointer (some ⟨g, 0, none⟩), .string ⟨#[110, 111, 116]⟩] w fun e w' => e = .returned (.bool b) ∧ w = w'
  isO : ∀ (e : Int) (p : Nat) (w : World) (b : Bool), Mem S w0 [rp g s p e] w → decide (isWord s p wOpen) = b → Calls Tryz.prog 38 #[.pointer (some ⟨g, 0, none⟩), .string ⟨#[40]⟩] w fun e w' => e = .returned (.bool b) ∧ w = w'
  isC : ∀ (e : Int) (p : Nat) (w : World) (b : Bool), Mem S w0 [rp g s p e] w → decide (isWord s p wClose) = b → Calls Tryz.prog 38 #[.pointer (some ⟨g, 0, none⟩), .string ⟨#[41]⟩] w fun e w' => e = .returned (.bool b) ∧ w = w'
  nx : ∀ (e : Int) (p : Nat) (w : World), p ≤ s.length → (lex s p).kind ≠ .bad → Mem S w0 [rp g s p e] w → Calls Tryz.prog 16 #[.pointer (some ⟨g, 0, none⟩)] w (NxPost S s g p e w0)
  fl : ∀ (e : Int) (p : Nat) (w : World), Mem S w0 [rp g s p e] w → Calls Tryz.prog 18 #[.pointer (some ⟨g, 0, none⟩)] w fun e w' => e = .panicked (faultAt ((lex s p).at_ : Nat)) ∧ w = w'
  test : ∀ (p : Nat) (w : World), p ≤ s.length → (lex s p).kind ≠ .bad → Mem S w0 [rp g s p (d : Int)] w → Calls Tryz.prog 61 #[.pointer (some ⟨g, 0, none⟩)] w fun e w' => RdPost S s g (d : Int) w0 ((lang s).test true p) e w'
  one : d ≠ 32 → ∀ (p : Nat) (w : World), p ≤ s.length → (lex s p).kind ≠ .bad → Mem S w0 [rp g s p ((d : Int) + 1)] w → Calls Tryz.prog 49 #[.pointer (some ⟨g, 0, none⟩)] w fun e w' => ∃ r, Reads (lang s) true .one (d + 1) p r ∧ RdPost S s g ((d : Int) + 1) w0 r e w'
  any : d ≠ 32 → ∀ (p : Nat) (w : World), p ≤ s.length → (lex s p).kind ≠ .bad → Mem S w0 [rp g s p ((d : Int) + 1)] w → Calls Tryz.prog 17 #[.pointer (some ⟨g, 0, none⟩)] w fun e w' => ∃ r, Reads (lang s) true .any (d + 1) p r ∧ RdPost S s g ((d : Int) + 1) w0 r e w'
set_option maxRecDepth 100000 in
set_option maxHeartbeats 800000 in
theorem one_test (s : List UInt8) (S : Nat → Prop) (g d : Nat) (w0 : World) (hd : d ≤ 32) (K : OneC s S g d w0) (p : Nat) (w : World) (hp : p ≤ s.length) (hb : (lex s p).kind ≠ .bad) (M : Mem S w0 [rp g s p (d : Int)] w) (h0 : ¬ isWord s p wNot) (h1 : ¬ isWord s p wOpen) :
    Calls Tryz.prog 49 #[.pointer (some ⟨g, 0, none⟩)] w fun e w' => ∃ r, Reads (lang s) true .one d p r ∧ RdPost S s g (d : Int) w0 r e w' := by
  have HN := Lib.hid (K.isN (d : Int))
  have HO := Lib.hid (K.isO (d : Int))
  have HT := Lib.hid K.test
  have H0 := Lib.hid (decide_eq_false h0)
  have H1 := Lib.hid (decide_eq_false h1)
  go_enter Tryz.func49, Tryz.ntmps49
  (try dsimp only); (repeat (first | (first | (go_at_call 38; (first | (with_reducible refine (HN.out _ _ _ M H0.out).mono ?_) | (with_reducible refine (HO.out _ _ _ M H1.out).mono ?_)); rintro _ w1 ⟨rfl, rfl⟩; dsimp only) | (go_at_call 61; (with_reducible refine (HT.out _ _ hp hb M).mono ?_); rintro _ w1 hx; have HR := Reads.test (L := lang s) (e := true) (d := d) h0 h1; obtain ⟨r, hr⟩ : ∃ r, (lang s).test true p = r := ⟨_, rfl⟩; rw [hr] at hx HR; rcases r with ⟨n, q⟩ | ⟨a⟩; rotate_left; (focus (obtain ⟨rfl, cs, M1⟩ := hx; exact ⟨rfl, _, HR, rfl, cs, M1⟩)); obtain ⟨rfl, hq, hbq, M1⟩ := hx; replace M := M1; clear M1; dsimp only) | ((with_reducible refine wl_g ?_); first | go_big_want | go_skip | ((with_reducible refine wl_off (by kernel_rfl) ?_); (first | ((with_reducible refine fastK Tryz.prog rfl ?_); go_big_move) | (with_reducible refine fastN rfl ?_) | skip))) | ((with_reducible refine on_load ?_); (first | refine xl1 M ?_ | refine xlN M ?_); go_big_move) | ((with_reducible refine on_store ?_); (first | refine xs1 M ?_ | refine xsN M ?_); clear M; intro w' M; (try simp only [List.set_cons_zero, List.set_cons_succ] at M))) | go_values | go_skip | go_guarded | go_step | go_upon))
  exact ret_m1 rfl (Out.tmp rfl) rfl ⟨_, HR, rfl, hq, hbq, M⟩
set_option maxRecDepth 100000 in
set_option maxHeartbeats 800000 in
theorem one_deepN (s : List UInt8) (S : Nat → Prop) (g d : Nat) (w0 : World) (hd : d ≤ 32) (K : OneC s S g d w0) (p : Nat) (w : World) (hp : p ≤ s.length) (hb : (lex s p).kind ≠ .bad) (M : Mem S w0 [rp g s p (d : Int)] w) (h0 : isWord s p wNot) (hd3 : d = 32) :
    Calls Tryz.prog 49 #[.pointer (some ⟨g, 0, none⟩)] w fun e w' => ∃ r, Reads (lang s) true .one d p r ∧ RdPost S s g (d : Int) w0 r e w' := by
  have HN := Lib.hid (K.isN (d : Int))
  have HO := Lib.hid (K.isO (d : Int))
  have HF := Lib.hid (K.fl (d : Int))
  have hd0 : ((d : Int) == 32) = true := by rw [beq_iff_eq]; omega
  have H0 := Lib.hid (decide_eq_true h0)
  go_enter Tryz.func49, Tryz.ntmps49
  (try dsimp only); (repeat (first | (first | (go_at_call 38; (with_reducible refine (HN.out _ _ _ M H0.out).mono ?_); rintro _ w1 ⟨rfl, rfl⟩; dsimp only) | (go_at_call 18; (with_reducible refine (HF.out _ _ M).mono ?_); rintro _ w1 ⟨rfl, rfl⟩) | ((with_reducible refine wl_g ?_); first | go_big_want | go_skip | ((with_reducible refine wl_off (by kernel_rfl) ?_); (first | ((with_reducible refine fastK Tryz.prog rfl ?_); go_big_move) | (with_reducible refine fastN rfl ?_) | skip))) | ((with_reducible refine on_load ?_); (first | refine xl1 M ?_ | refine xlN M ?_); go_big_move) | ((with_reducible refine on_store ?_); (first | refine xs1 M ?_ | refine xsN M ?_); clear M; intro w' M; (try simp only [List.set_cons_zero, List.set_cons_succ] at M))) | go_values | go_skip | go_guarded | go_step | go_upon))
  exact ⟨rfl, _, Reads.deep (.inl h0) hd3, rfl, _, M⟩
set_option maxRecDepth 100000 in
set_option maxHeartbeats 800000 in
theorem one_deepO (s : List UInt8) (S : Nat → Prop) (g d : Nat) (w0 : World) (hd : d ≤ 32) (K : OneC s S g d w0) (p : Nat) (w : World) (hp : p ≤ s.length) (hb : (lex s p).kind ≠ .bad) (M : Mem S w0 [rp g s p (d : Int)] w) (h0 : ¬ isWord s p wNot) (h1 : isWord s p wOpen) (hd3 : d = 32) :
    Calls Tryz.prog 49 #[.pointer (some ⟨g, 0, none⟩)] w fun e w' => ∃ r, Reads (lang s) true .one d p r ∧ RdPost S s g (d : Int) w0 r e w' := by
  have HN := Lib.hid (K.isN (d : Int))
  have HO := Lib.hid (K.isO (d : Int))
  have HF := Lib.hid (K.fl (d : Int))
  have hd0 : ((d : Int) == 32) = true := by rw [beq_iff_eq]; omega
  have H0 := Lib.hid (decide_eq_false h0)
  have H1 := Lib.hid (decide_eq_true h1)
  go_enter Tryz.func49, Tryz.ntmps49
  (try dsimp only); (repeat (first | (first | (go_at_call 38; (first | (with_reducible refine (HN.out _ _ _ M H0.out).mono ?_) | (with_reducible refine (HO.out _ _ _ M H1.out).mono ?_)); rintro _ w1 ⟨rfl, rfl⟩; dsimp only) | (go_at_call 18; (with_reducible refine (HF.out _ _ M).mono ?_); rintro _ w1 ⟨rfl, rfl⟩) | ((with_reducible refine wl_g ?_); first | go_big_want | go_skip | ((with_reducible refine wl_off (by kernel_rfl) ?_); (first | ((with_reducible refine fastK Tryz.prog rfl ?_); go_big_move) | (with_reducible refine fastN rfl ?_) | skip))) | ((with_reducible refine on_load ?_); (first | refine xl1 M ?_ | refine xlN M ?_); go_big_move) | ((with_reducible refine on_store ?_); (first | refine xs1 M ?_ | refine xsN M ?_); clear M; intro w' M; (try simp only [List.set_cons_zero, List.set_cons_succ] at M))) | go_values | go_skip | go_guarded | go_step | go_upon))
  exact ⟨rfl, _, Reads.deep (.inr h1) hd3, rfl, _, M⟩
set_option maxRecDepth 100000 in
set_option maxHeartbeats 800000 in
theorem one_not (s : List UInt8) (S : Nat → Prop) (g d : Nat) (w0 : World) (hd : d ≤ 32) (K : OneC s S g d w0) (p : Nat) (w : World) (hp : p ≤ s.length) (hb : (lex s p).kind ≠ .bad) (M : Mem S w0 [rp g s p (d : Int)] w) (h0 : isWord s p wNot) (hd3 : d ≠ 32) :
    Calls Tryz.prog 49 #[.pointer (some ⟨g, 0, none⟩)] w fun e w' => ∃ r, Reads (lang s) true .one d p r ∧ RdPost S s g (d : Int) w0 r e w' := by
  have HN := Lib.hid (K.isN (d : Int))
  have HO := Lib.hid (K.isO (d : Int))
  have HX := Lib.hid (K.nx ((d : Int) + 1))
  have hd0 : ((d : Int) == 32) = false := by rw [beq_eq_false_iff_ne]; omega
  have hd1 : IntKind.i64.wrap ((d : Int) + 1) = (d : Int) + 1 := IntWalk.i64_in _ (by omega)
  have hd2 : IntKind.i64.wrap ((d : Int) + 1 - 1) = (d : Int) := by rw [show (d : Int) + 1 - 1 = d by omega]; exact IntWalk.i64_in _ (by omega)
  have H0 := Lib.hid (decide_eq_true h0)
  have HR := Lib.hid (K.one hd3)
  go_enter Tryz.func49, Tryz.ntmps49
  (try dsimp only); (repeat (first | (first | (go_at_call 38; (with_reducible refine (HN.out _ _ _ M H0.out).mono ?_); rintro _ w1 ⟨rfl, rfl⟩; dsimp only) | (go_at_call 16; (with_reducible refine (HX.out _ _ hp hb M).mono ?_); rintro _ w2 hx; rcases hx with ⟨ha, hq2, hbq2, rfl, M1⟩ | ⟨ha, rfl, cs, M1⟩; rotate_left; (focus (exact ⟨rfl, _, Reads.notBad h0 hd3 ha, rfl, cs, M1⟩)); replace M := M1; clear M1; dsimp only) | (go_at_call 49; (with_reducible refine (HR.out _ _ hq2 hbq2 M).mono ?_); rintro _ w3 ⟨r, hr, hx⟩; rcases r with ⟨n, q⟩ | ⟨a⟩; rotate_left; (focus (obtain ⟨rfl, cs, M1⟩ := hx; exact ⟨rfl, _, Reads.notFail h0 hd3 ha hr, rfl, cs, M1⟩)); obtain ⟨rfl, hq, hbq, M1⟩ := hx; replace M := M1; clear M1; dsimp only; obtain ⟨t2, v2, e2⟩ := ndV_iface n; rw [e2]; have E2 := Lib.hid e2; clear e2) | ((with_reducible refine wl_g ?_); first | go_big_want | go_skip | ((with_reducible refine wl_off (by kernel_rfl) ?_); (first | ((with_reducible refine fastK Tryz.prog rfl ?_); go_big_move) | (with_reducible refine fastN rfl ?_) | skip))) | ((with_reducible refine on_load ?_); (first | refine xl1 M ?_ | refine xlN M ?_); go_big_move) | ((with_reducible refine on_store ?_); (first | refine xs1 M ?_ | refine xsN M ?_); clear M; intro w' M; (try simp only [List.set_cons_zero, List.set_cons_succ] at M))) | go_values | go_skip | go_guarded | go_step | go_upon))
  exact ret_m1 rfl (Out.tmp rfl) rfl ⟨_, Reads.notOk h0 hd3 ha hr, by show _ = Ending.returned (ndV (.not n)); unfold ndV; rw [E2.out]; rfl, hq, hbq, M⟩
set_option maxRecDepth 100000 in
set_option maxHeartbeats 800000 in
theorem one_open (s : List UInt8) (S : Nat → Prop) (g d : Nat) (w0 : World) (hd : d ≤ 32) (K : OneC s S g d w0) (p : Nat) (w : World) (hp : p ≤ s.length) (hb : (lex s p).kind ≠ .bad) (M : Mem S w0 [rp g s p (d : Int)] w) (h0 : ¬ isWord s p wNot) (h1 : isWord s p wOpen) (hd3 : d ≠ 32) :
    Calls Tryz.prog 49 #[.pointer (some ⟨g, 0, none⟩)] w fun e w' => ∃ r, Reads (lang s) true .one d p r ∧ RdPost S s g (d : Int) w0 r e w' := by
  have HN := Lib.hid (K.isN (d : Int))
  have HO := Lib.hid (K.isO (d : Int))
  have HX := Lib.hid (K.nx ((d : Int) + 1))
  have hd0 : ((d : Int) == 32) = false := by rw [beq_eq_false_iff_ne]; omega
  have hd1 : IntKind.i64.wrap ((d : Int) + 1) = (d : Int) + 1 := IntWalk.i64_in _ (by omega)
  have hd2 : IntKind.i64.wrap ((d : Int) + 1 - 1) = (d : Int) := by rw [show (d : Int) + 1 - 1 = d by omega]; exact IntWalk.i64_in _ (by omega)
  have H0 := Lib.hid (decide_eq_false h0)
  have H1 := Lib.hid (decide_eq_true h1)
  have HR := Lib.hid (K.any hd3)
  have HC := Lib.hid (K.isC ((d : Int) + 1))
  have HF := Lib.hid (K.fl ((d : Int) + 1))
  have HX2 := Lib.hid (K.nx (d : Int))
  go_enter Tryz.func49, Tryz.ntmps49
  (try dsimp only); (repeat (first | (first | (go_at_call 38; (first | (with_reducible refine (HN.out _ _ _ M H0.out).mono ?_) | (with_reducible refine (HO.out _ _ _ M H1.out).mono ?_) | (with_reducible refine (HC.out _ _ _ M rfl).mono ?_)); rintro _ w1 ⟨rfl, rfl⟩; dsimp only; (try (obtain ⟨b, hcb⟩ : ∃ b, decide (isWord s q wClose) = b := ⟨_, rfl⟩; rw [hcb]; cases b))) | (go_at_call 16; (first | (with_reducible refine (HX.out _ _ hp hb M).mono ?_) | (with_reducible refine (HX2.out _ _ hq hbq M).mono ?_)); rintro _ w2 hx; rcases hx with ⟨ha, hq2, hbq2, rfl, M1⟩ | ⟨ha, rfl, cs, M1⟩; rotate_left; (focus (first | exact ⟨rfl, _, Reads.openClose h0 h1 hd3 hA.out hr hc ha, rfl, cs, M1⟩ | exact ⟨rfl, _, Reads.openBad h0 h1 hd3 ha, rfl, cs, M1⟩)); replace M := M1; clear M1; dsimp only) | (go_at_call 17; (with_reducible refine (HR.out _ _ hq2 hbq2 M).mono ?_); rintro _ w3 ⟨r, hr, hx⟩; rcases r with ⟨n, q⟩ | ⟨a⟩; rotate_left; (focus (obtain ⟨rfl, cs, M1⟩ := hx; exact ⟨rfl, _, Reads.openFail h0 h1 hd3 ha hr, rfl, cs, M1⟩)); obtain ⟨rfl, hq, hbq, M1⟩ := hx; replace M := M1; clear M1; have hA := Lib.hid ha; clear ha hq2 hbq2; dsimp only) | (go_at_call 18; (with_reducible refine (HF.out _ _ M).mono ?_); rintro _ w1 ⟨rfl, rfl⟩) | ((with_reducible refine wl_g ?_); first | go_big_want | go_skip | ((with_reducible refine wl_off (by kernel_rfl) ?_); (first | ((with_reducible refine fastK Tryz.prog rfl ?_); go_big_move) | (with_reducible refine fastN rfl ?_) | skip))) | ((with_reducible refine on_load ?_); (first | refine xl1 M ?_ | refine xlN M ?_); go_big_move) | ((with_reducible refine on_store ?_); (first | refine xs1 M ?_ | refine xsN M ?_); clear M; intro w' M; (try simp only [List.set_cons_zero, List.set_cons_succ] at M))) | go_values | go_skip | go_guarded | go_step | go_upon))
  · exact ⟨rfl, _, Reads.openNot h0 h1 hd3 hA.out hr (show ¬ isWord s q wClose from of_decide_eq_false hcb), rfl, _, M⟩
  have hc : isWord s q wClose := of_decide_eq_true hcb
  (try dsimp only); (repeat (first | (first | (go_at_call 16; (first | (with_reducible refine (HX.out _ _ hp hb M).mono ?_) | (with_reducible refine (HX2.out _ _ hq hbq M).mono ?_)); rintro _ w2 hx; rcases hx with ⟨ha, hq2, hbq2, rfl, M1⟩ | ⟨ha, rfl, cs, M1⟩; rotate_left; (focus (first | exact ⟨rfl, _, Reads.openClose h0 h1 hd3 hA.out hr hc ha, rfl, cs, M1⟩ | exact ⟨rfl, _, Reads.openBad h0 h1 hd3 ha, rfl, cs, M1⟩)); replace M := M1; clear M1; dsimp only) | ((with_reducible refine wl_g ?_); first | go_big_want | go_skip | ((with_reducible refine wl_off (by kernel_rfl) ?_); (first | ((with_reducible refine fastK Tryz.prog rfl ?_); go_big_move) | (with_reducible refine fastN rfl ?_) | skip))) | ((with_reducible refine on_load ?_); (first | refine xl1 M ?_ | refine xlN M ?_); go_big_move) | ((with_reducible refine on_store ?_); (first | refine xs1 M ?_ | refine xsN M ?_); clear M; intro w' M; (try simp only [List.set_cons_zero, List.set_cons_succ] at M))) | go_values | go_skip | go_guarded | go_step | go_upon))
  exact ret_m1 rfl (Out.tmp rfl) rfl ⟨_, Reads.openOk h0 h1 hd3 hA.out hr hc ha, rfl, hq2, hbq2, M⟩
theorem one_of (s : List UInt8) (hs : s.length ≤ 1048576) (d : Nat) (hd : d ≤ 32) (htest : TestAt s) (hone : d ≠ 32 → At 49 .one s (d + 1)) (hany : d ≠ 32 → At 17 .any s (d + 1)) : At 49 .one s d := by
  intro S g p w0 w hp hb M hN hS
  have hc : ((d + 1 : Nat) : Int) = (d : Int) + 1 := by omega
  have K : OneC s S g d w0 := {
    isN := fun e p w b M h => is_rp s wNot M b h
    isO := fun e p w b M h => is_rp s wOpen M b h
    isC := fun e p w b M h => is_rp s wClose M b h
    nx := fun e p w hp hb M => next_rp s hs hp hb M hN hS
    fl := fun e p w M => fail_rp M
    test := fun p w hp hb M => htest S g p _ w0 w hp hb M hN hS
    one := fun h p w hp hb M => by
      have := hone h S g p w0 w hp hb (by rw [hc]; exact M) hN hS
      rwa [hc] at this
    any := fun h p w hp hb M => by
      have := hany h S g p w0 w hp hb (by rw [hc]; exact M) hN hS
      rwa [hc] at this }
  by_cases h0 : isWord s p wNot
  · by_cases h3 : d = 32
    · exact one_deepN s S g d w0 hd K p w hp hb M h0 h3
    · exact one_not s S g d w0 hd K p w hp hb M h0 h3
  · by_cases h1 : isWord s p wOpen
    · by_cases h3 : d = 32
      · exact one_deepO s S g d w0 hd K p w hp hb M h0 h1 h3
      · exact one_open s S g d w0 hd K p w hp hb M h0 h1 h3
    · exact one_test s S g d w0 hd K p w hp hb M h0 h1
theorem parser_at (s : List UInt8) (hs : s.length ≤ 1048576) (htest : TestAt s) : ∀ (k d : Nat), d + k = 32 → At 49 .one s d ∧ At 17 .any s d
  | 0, d, h => by
    have h1 := one_of s hs d (by omega) htest (fun h2 => absurd (by omega) h2) (fun h2 => absurd (by omega) h2)
    exact ⟨h1, any_of s hs d (all_of s hs d h1)⟩
  | k + 1, d, h => by
    have ih := parser_at s hs htest k (d + 1) (by omega)
    have h1 := one_of s hs d (by omega) htest (fun _ => ih.1) (fun _ => ih.2)
    exact ⟨h1, any_of s hs d (all_of s hs d h1)⟩
end Go.Proofs.YtkblkdnihppmnaaGreatDoor
/- Filters (layer 21): the document's small functions (walk): letters, digits, words and their places. -/
namespace Go.Proofs.YtkblkdnihppmnaaGreatDoor
set_option linter.unusedSimpArgs false
set_option linter.unusedVariables false
open Go.RowKit Res Filt

theorem ref_letter (c : UInt8) (w : World) : Calls Tryz.prog 39 #[.int .u8 (c.toNat : Int)] w fun e w' => e = .returned (.bool (isSmall c)) ∧ w = w' := by
  by_cases h1 : 97 ≤ c.toNat
  · have q1 : decide (97 ≤ (c.toNat : Int)) = true := by simp; omega
    have e : isSmall c = decide ((c.toNat : Int) ≤ 122) := by unfold isSmall; rw [decide_eq_decide]; omega
    rw [e]
    clear e
    go_enter Tryz.func39, Tryz.ntmps39
    go_wp2
    go_ret
    exact ⟨rfl, rfl⟩
  · have q1 : decide (97 ≤ (c.toNat : Int)) = false := by simp; omega
    have e : isSmall c = false := by unfold isSmall; rw [decide_eq_false_iff_not]; omega
    rw [e]
    clear e
    go_enter Tryz.func39, Tryz.ntmps39
    go_wp2
    go_ret
    exact ⟨rfl, rfl⟩
theorem ref_digit (c : UInt8) (w : World) : Calls Tryz.prog 40 #[.int .u8 (c.toNat : Int)] w fun e w' => e = .returned (.bool (isDigit c)) ∧ w = w' := by
  by_cases h1 : 48 ≤ c.toNat
  · have q1 : decide (48 ≤ (c.toNat : Int)) = true := by simp; omega
    have e : isDigit c = decide ((c.toNat : Int) ≤ 57) := by unfold isDigit; rw [decide_eq_decide]; omega
    rw [e]
    clear e
    go_enter Tryz.func40, Tryz.ntmps40
    go_wp2
    go_ret
    exact ⟨rfl, rfl⟩
  · have q1 : decide (48 ≤ (c.toNat : Int)) = false := by simp; omega
    have e : isDigit c = false := by unfold isDigit; rw [decide_eq_false_iff_not]; omega
    rw [e]
    clear e
    go_enter Tryz.func40, Tryz.ntmps40
    go_wp2
    go_ret
    exact ⟨rfl, rfl⟩
theorem strElem : ElemOf Tryz.prog 35 9 1 16 := elemOf_mk Tryz.underlying35 (z := .string ⟨#[]⟩) (by kernel_rfl) rfl (by decide)
/-- words in memory -/
def Words (w : World) (g : Nat) (fs : List (List UInt8)) : Prop := g < w.heap.size ∧ ∀ (j : Nat) t, fs[j]? = some t → w.cell? ⟨g, j, none⟩ = some (str t)
theorem Words.of_box {w : World} {g : Nat} {t : TypeId} {fs : List (List UInt8)} (h : Box w g t (fs.map str).toArray) : Words w g fs := ⟨h.lt, fun j t hj => by rw [h.cell]; simp [hj]⟩
theorem Words.ext {w w' : World} {g : Nat} {fs : List (List UInt8)} (h : Words w g fs) (hX : Ext w w') : Words w' g fs := ⟨Nat.lt_of_lt_of_le h.1 hX.size, fun j t hj => (hX.cell (p := ⟨g, j, none⟩) h.1).trans (h.2 j t hj)⟩
set_option maxRecDepth 100000 in
set_option maxHeartbeats 800000 in
theorem ref_fields (w : World) : Calls Tryz.prog 25 #[] w fun e w' => ∃ g, e = .returned (.slice (some ⟨g, 0, none⟩) 14 14) ∧ Ext w w' ∧ w.heap.size ≤ g ∧ Box w' g 9 ((fieldNames).map str).toArray := by
  have M := Mem.start w
  go_enter Tryz.func25, Tryz.ntmps25
  (try dsimp only); (repeat (first | (first | ((with_reducible refine on_slice ?_); refine wp_slice M strElem _ rfl _ (by (repeat (first | exact Parts.nil | (apply Parts.cons; (first | exact CellsOf.agg _ | exact CellsOf.int _ _ | exact CellsOf.str _ | exact CellsOf.bool _ | exact CellsOf.slice _ _ _ | exact CellsOf.pointer _); rfl))); done) (by rfl) (by decide) (by decide) ?_; clear M; intro g w' M; (try simp only [List.cons_append, List.nil_append] at M); (first | ((with_reducible refine fastK Tryz.prog rfl ?_); go_big_move) | (with_reducible refine fastN rfl ?_) | skip))) | go_values | go_skip | go_guarded | go_step | go_upon))
  have hB := M.box (g := g) pk
  exact ret_m1 rfl (Out.tmp rfl) rfl ⟨_, rfl, M.ext_of, Nat.le_of_not_lt (M.out _ (Pick.mem (c := bx g _ _) pk) g rfl), hB⟩
set_option maxRecDepth 100000 in
set_option maxHeartbeats 800000 in
theorem ref_statuses (w : World) : Calls Tryz.prog 24 #[] w fun e w' => ∃ g, e = .returned (.slice (some ⟨g, 0, none⟩) 8 8) ∧ Ext w w' ∧ w.heap.size ≤ g ∧ Box w' g 9 ((([] : List UInt8) :: statusNames).map str).toArray := by
  have M := Mem.start w
  go_enter Tryz.func24, Tryz.ntmps24
  (try dsimp only); (repeat (first | (first | ((with_reducible refine on_slice ?_); refine wp_slice M strElem _ rfl _ (by (repeat (first | exact Parts.nil | (apply Parts.cons; (first | exact CellsOf.agg _ | exact CellsOf.int _ _ | exact CellsOf.str _ | exact CellsOf.bool _ | exact CellsOf.slice _ _ _ | exact CellsOf.pointer _); rfl))); done) (by rfl) (by decide) (by decide) ?_; clear M; intro g w' M; (try simp only [List.cons_append, List.nil_append] at M); (first | ((with_reducible refine fastK Tryz.prog rfl ?_); go_big_move) | (with_reducible refine fastN rfl ?_) | skip))) | go_values | go_skip | go_guarded | go_step | go_upon))
  have hB := M.box (g := g) pk
  exact ret_m1 rfl (Out.tmp rfl) rfl ⟨_, rfl, M.ext_of, Nat.le_of_not_lt (M.out _ (Pick.mem (c := bx g _ _) pk) g rfl), hB⟩
set_option maxRecDepth 100000 in
set_option maxHeartbeats 800000 in
theorem ref_asks (w : World) : Calls Tryz.prog 26 #[] w fun e w' => ∃ g, e = .returned (.slice (some ⟨g, 0, none⟩) 6 6) ∧ Ext w w' ∧ w.heap.size ≤ g ∧ Box w' g 9 ((askNames).map str).toArray := by
  have M := Mem.start w
  go_enter Tryz.func26, Tryz.ntmps26
  (try dsimp only); (repeat (first | (first | ((with_reducible refine on_slice ?_); refine wp_slice M strElem _ rfl _ (by (repeat (first | exact Parts.nil | (apply Parts.cons; (first | exact CellsOf.agg _ | exact CellsOf.int _ _ | exact CellsOf.str _ | exact CellsOf.bool _ | exact CellsOf.slice _ _ _ | exact CellsOf.pointer _); rfl))); done) (by rfl) (by decide) (by decide) ?_; clear M; intro g w' M; (try simp only [List.cons_append, List.nil_append] at M); (first | ((with_reducible refine fastK Tryz.prog rfl ?_); go_big_move) | (with_reducible refine fastN rfl ?_) | skip))) | go_values | go_skip | go_guarded | go_step | go_upon))
  have hB := M.box (g := g) pk
  exact ret_m1 rfl (Out.tmp rfl) rfl ⟨_, rfl, M.ext_of, Nat.le_of_not_lt (M.out _ (Pick.mem (c := bx g _ _) pk) g rfl), hB⟩
set_option maxRecDepth 100000 in
set_option maxHeartbeats 800000 in
theorem ref_find (g n : Nat) (fs : List (List UInt8)) (x : List UInt8) (hn : fs.length = n) (hn2 : n ≤ 1000) (w : World) (hB : Words w g fs) :
    Calls Tryz.prog 74 #[.slice (some ⟨g, 0, none⟩) n n, str x] w fun e w' => e = .returned (fi (refFind fs x)) ∧ w = w' := by
  have M := Mem.start w
  obtain ⟨res, hres⟩ : ∃ res, refFind fs x = res := ⟨_, rfl⟩
  rw [hres]
  have HR := Lib.hid hres
  have HL := Lib.hid hn
  have HB := Lib.hid hB
  clear hres hB hn
  go_enter Tryz.func74, Tryz.ntmps74
  (try dsimp only); (repeat (first | (first | ((with_reducible refine wl_g ?_); first | go_big_want | go_skip | ((with_reducible refine wl_off (by kernel_rfl) ?_); (first | ((with_reducible refine fastK Tryz.prog rfl ?_); go_big_move) | (with_reducible refine fastN rfl ?_) | skip))) | ((with_reducible refine on_load ?_); (first | refine xl1 M ?_ | refine xlN M ?_); go_big_move)) | go_values | go_skip | go_guarded | go_step | go_upon))
  go_loop [5] (fun i => ∃ k : Nat, k ≤ n ∧ i = fi (k : Int) ∧ Hid (x = [] ∨ x ∉ fs.take k)) (fun i => n - (intOf i).toNat)
  case atStart => exact ⟨0, by omega, rfl, Lib.hid (.inr (by simp))⟩
  case round =>
    obtain ⟨k, hk, rfl, hh⟩ := hrel
    by_cases hlt : k < n
    · have q1 : decide ((k : Int) < (n : Int)) = true := by simp; omega
      obtain ⟨y, hy⟩ : ∃ y, fs[k]? = some y := ⟨_, List.getElem?_eq_getElem (by rw [HL.out]; exact hlt)⟩
      have HC := Lib.hid (HB.out.2 k y hy)
      have hwk : IntKind.i64.wrap ((k : Int) + 1) = (k : Int) + 1 := IntWalk.i64_in _ (by omega)
      by_cases hxy : y = x
      · have q2 : (y == x) = true := by simpa using hxy
        by_cases hx0 : x = []
        · have q3 : (!x.isEmpty) = false := by simpa using hx0
          have HN : Hid (x = [] ∨ x ∉ fs.take (k + 1)) := Lib.hid (.inl hx0)
          clear hxy hy hh hx0
          (try dsimp only); (repeat (first | (first | ((with_reducible refine on_load ?_); refine xlC HC.out ?_; go_big_move) | ((with_reducible refine wl_g ?_); first | go_big_want | go_skip | ((with_reducible refine wl_off (by kernel_rfl) ?_); (first | ((with_reducible refine fastK Tryz.prog rfl ?_); go_big_move) | (with_reducible refine fastN rfl ?_) | skip))) | ((with_reducible refine on_load ?_); (first | refine xl1 M ?_ | refine xlN M ?_); go_big_move)) | go_values | go_skip | go_guarded | go_step | go_upon))
          exact ⟨⟨k + 1, by omega, by go_num, HN⟩, by simp [intOf]; omega⟩
        · have q3 : (!x.isEmpty) = true := by simpa using hx0
          have HN : Hid (res = (k : Int)) := Lib.hid (by
            rw [← HR.out]
            unfold refFind
            rcases hh.out with h | h
            · exact absurd h hx0
            rw [idx_at fs k (by rw [hy, hxy]) h, if_pos ⟨hx0, by rw [HL.out]; exact hlt⟩])
          clear hxy hy hh hx0
          (try dsimp only); (repeat (first | (first | ((with_reducible refine on_load ?_); refine xlC HC.out ?_; go_big_move) | ((with_reducible refine wl_g ?_); first | go_big_want | go_skip | ((with_reducible refine wl_off (by kernel_rfl) ?_); (first | ((with_reducible refine fastK Tryz.prog rfl ?_); go_big_move) | (with_reducible refine fastN rfl ?_) | skip))) | ((with_reducible refine on_load ?_); (first | refine xl1 M ?_ | refine xlN M ?_); go_big_move)) | go_values | go_skip | go_guarded | go_step | go_upon))
          rw [HN.out]
          exact ret_m1 rfl (Out.tmp rfl) rfl ⟨rfl, rfl⟩
      · have q2 : (y == x) = false := by simpa using hxy
        have HN : Hid (x = [] ∨ x ∉ fs.take (k + 1)) := Lib.hid (by
          rcases hh.out with h | h
          · exact .inl h
          rw [List.take_add_one, hy]
          simp only [Option.toList_some, List.mem_append, List.mem_singleton, not_or]
          exact .inr ⟨h, fun e => hxy e.symm⟩)
        clear hxy hy hh
        (try dsimp only); (repeat (first | (first | ((with_reducible refine on_load ?_); refine xlC HC.out ?_; go_big_move) | ((with_reducible refine wl_g ?_); first | go_big_want | go_skip | ((with_reducible refine wl_off (by kernel_rfl) ?_); (first | ((with_reducible refine fastK Tryz.prog rfl ?_); go_big_move) | (with_reducible refine fastN rfl ?_) | skip))) | ((with_reducible refine on_load ?_); (first | refine xl1 M ?_ | refine xlN M ?_); go_big_move)) | go_values | go_skip | go_guarded | go_step | go_upon))
        exact ⟨⟨k + 1, by omega, by go_num, HN⟩, by simp [intOf]; omega⟩
    · have q1 : decide ((k : Int) < (n : Int)) = false := by simp; omega
      have HN : Hid (res = -1) := Lib.hid (by
        have e : fs.take k = fs := List.take_of_length_le (by rw [HL.out]; omega)
        have h := hh.out
        rw [e] at h
        rw [← HR.out]
        unfold refFind
        rcases h with h | h
        · exact if_neg fun k => k.1 h
        · exact if_neg fun k => by rw [List.idxOf_eq_length h] at k; omega)
      clear hh
      (try dsimp only); (repeat (first | (first | ((with_reducible refine wl_g ?_); first | go_big_want | go_skip | ((with_reducible refine wl_off (by kernel_rfl) ?_); (first | ((with_reducible refine fastK Tryz.prog rfl ?_); go_big_move) | (with_reducible refine fastN rfl ?_) | skip))) | ((with_reducible refine on_load ?_); (first | refine xl1 M ?_ | refine xlN M ?_); go_big_move)) | go_values | go_skip | go_guarded | go_step | go_upon))
      rw [HN.out]
      exact ret_m1 rfl (Out.tmp rfl) rfl ⟨rfl, rfl⟩
end Go.Proofs.YtkblkdnihppmnaaGreatDoor
