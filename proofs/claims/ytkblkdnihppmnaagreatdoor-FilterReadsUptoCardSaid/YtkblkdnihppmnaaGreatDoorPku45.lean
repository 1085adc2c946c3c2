/- Parts of this work, one behind the other: Rfj. -/
import Derived.Test.YtkblkdnihppmnaaGreatDoorPku42
import Derived.Test.YtkblkdnihppmnaaGreatDoorPku43
import Derived.Test.YtkblkdnihppmnaaGreatDoorPku44
import Derived.Test.YtkblkdnihppmnaaGreatDoorPku35
/- Filters (layer 21): the document's reader (walk): test, one, any, of any text. -/
namespace Go.Proofs.YtkblkdnihppmnaaGreatDoor
set_option linter.unusedSimpArgs false
set_option linter.unusedVariables false
open Go.RowKit Res Filt

theorem refFind_in {fs : List (List UInt8)} {x : List UInt8} (hx : x ≠ []) (h : fs.idxOf x < fs.length) : refFind fs x = (fs.idxOf x : Int) := by unfold refFind; rw [if_pos ⟨hx, h⟩]
theorem refFind_out {fs : List (List UInt8)} {x : List UInt8} (h : ¬ fs.idxOf x < fs.length) : refFind fs x = -1 := by unfold refFind; rw [if_neg (fun k => h k.2)]
theorem word_ne {s : List UInt8} {p : Nat} (h : (lex s p).kind = .word) : textOf s (lex s p) ≠ [] := by
  obtain ⟨c, r, e, -⟩ := word_head h
  rw [e]
  simp
theorem find_status {x : List UInt8} (hx : x ≠ []) : (statusNames.idxOf x < 7 → refFind (([] : List UInt8) :: statusNames) x = (statusNames.idxOf x : Int) + 1) ∧ (¬ statusNames.idxOf x < 7 → refFind (([] : List UInt8) :: statusNames) x = -1) := by
  have e : (([] : List UInt8) :: statusNames).idxOf x = statusNames.idxOf x + 1 := by
    rw [List.idxOf_cons]
    have : (([] : List UInt8) == x) = false := by rw [beq_eq_false_iff_ne]; exact fun e => hx e.symm
    rw [this]
    rfl
  have hl : (([] : List UInt8) :: statusNames).length = 8 := rfl
  constructor
  · intro h
    rw [refFind_in hx (by rw [e, hl]; omega), e]
    omega
  · intro h
    exact refFind_out (by rw [e, hl]; omega)
theorem rtest_any (s : List UInt8) (hs : s.length ≤ 1048576) (d : Int) (S : Nat → Prop) (gr p : Nat) (A : Option Addr) (c : Nat) (out : List FN) (w0 w : World) (hp : p ≤ s.length) (hout : out.length ≤ p) (M : Mem S w0 [rx gr s p false 0 A out.length c d, ro A c out] w) :
    Calls Tryz.prog 62 #[.pointer (some ⟨gr, 0, none⟩)] w fun e w' => e = .returned (.tuple #[]) ∧ RxPost S s gr p d w0 out 0 ((lang s).test false p) w' := by
  by_cases h0 : (lex s p).kind = .word
  rotate_left
  · refine rtest_kind s hs d S gr p A c out w0 w hp hout M _ rfl (fun h => h0 h.1) ?_
    cases hk : (lex s p).kind <;> first | exact absurd hk h0 | rfl
  have k0 : (kindN (lex s p).kind != 1) = false := by rw [h0]; rfl
  by_cases hf14 : fieldOf s p < 14
  rotate_left
  · have hv := refFind_out (fs := fieldNames) (x := textOf s (lex s p)) hf14
    exact rtest_name s hs d S gr p A c out w0 w hp hout M _ hv (fun h => hf14 h.2) k0 (by decide)
  have hx : isField s p := ⟨h0, hf14⟩
  have hv0 : refFind fieldNames (textOf s (lex s p)) = (fieldOf s p : Int) := refFind_in (word_ne h0) hf14
  have hp1 : (lex s p).next ≤ s.length := (next_le hp (by rw [h0]; simp)).2
  have hl1 : p < (lex s p).next := next_gt (by rw [h0]; simp) (by rw [h0]; simp)
  have hdf : decide ((fieldOf s p : Int) < 0) = false := decide_eq_false (by omega)
  by_cases h1 : (lex s (lex s p).next).kind = .mark
  rotate_left
  · refine rtest_ask_kind s hs d S gr p A c out w0 w hp hout M _ _ hv0 rfl hp1 (by omega) hx (fun h => h1 h.1) k0 hdf ?_
    cases hk : (lex s (lex s p).next).kind <;> first | exact absurd hk h1 | rfl
  have k1 : (kindN (lex s (lex s p).next).kind != 4) = false := by rw [h1]; rfl
  by_cases hk6 : askOf s (lex s p).next < 6
  rotate_left
  · have hv := refFind_out (fs := askNames) (x := textOf s (lex s (lex s p).next)) hk6
    exact rtest_ask_name s hs d S gr p A c out w0 w hp hout M _ _ hv0 hv hp1 (by omega) hx (fun h => hk6 h.2) k0 hdf k1 (by decide)
  have hy : isAsk s (lex s p).next := ⟨h1, hk6⟩
  have hne1 : textOf s (lex s (lex s p).next) ≠ [] := fun e => by
    have : askNames.idxOf (textOf s (lex s (lex s p).next)) < 6 := hk6
    rw [e] at this
    revert this
    decide
  have hv1 : refFind askNames (textOf s (lex s (lex s p).next)) = (askOf s (lex s p).next : Int) := refFind_in hne1 hk6
  have hb1 : (lex s (lex s p).next).kind ≠ .bad := by rw [h1]; simp
  have hp2 : (lex s (lex s p).next).next ≤ s.length := (next_le hp1 hb1).2
  have hl2 : (lex s p).next ≤ (lex s (lex s p).next).next := next_ge _
  have hl3 := next_ge (s := s) (lex s (lex s p).next).next
  have nx3 : (lex s (lex s (lex s p).next).next).kind ≠ .bad → (lex s (lex s (lex s p).next).next).next ≤ s.length := fun h => (next_le hp2 h).2
  by_cases hi : fieldOf s p = 13
  · have hv0' : refFind fieldNames (textOf s (lex s p)) = 13 := by rw [hv0, hi]; rfl
    by_cases h2 : (lex s (lex s (lex s p).next).next).kind = .quoted
    · obtain ⟨l, ht2, hl, h64⟩ := quoted_text h2
      refine rtest_id_quoted s hs d S gr p A c out w0 w hp hout M _ l hv0' hv1 _ rfl hp1 (by omega) hp2 (by omega) (nx3 (by rw [h2]; simp)) (by omega) hx hy ?_ ht2 h64 k0 k1 (by rw [h2]; rfl)
      unfold testVal
      rw [if_pos ⟨hi, h2⟩, ht2]
      simp
    · refine rtest_id_none s hs d S gr p A c out w0 w hp hout M _ hv0' hv1 _ rfl hp1 (by omega) hp2 (by omega) hx hy ?_ k0 k1 ?_
      · unfold testVal
        rw [if_neg (fun h => h2 h.2), if_neg (fun h => h.1 hi), if_neg (fun h => by rw [hi] at h; exact absurd h.1 (by decide))]
      · cases hk : (lex s (lex s (lex s p).next).next).kind <;> first | exact absurd hk h2 | rfl
  · have hf13 : ((fieldOf s p : Int) == 13) = false := by rw [beq_eq_false_iff_ne]; omega
    have hf13b : ((fieldOf s p : Int) != 13) = true := by rw [bne_iff_ne]; omega
    by_cases h2 : (lex s (lex s (lex s p).next).next).kind = .digits
    · obtain ⟨v, hv⟩ := digits_num h2
      have hle := nx3 (by rw [h2]; simp)
      refine rtest_num_digits s hs d S gr p A c out w0 w hp hout M _ _ hv0 hv1 _ rfl v hf13 hf13b hp1 (by omega) hp2 (by omega) hle (by omega) hx hy ?_ hv ?_ k0 k1 (by rw [h2]; rfl)
      · unfold testVal
        rw [if_neg (fun h => hi h.1), if_pos ⟨hi, h2⟩, hv]
        rfl
      · unfold textOf
        rw [List.length_take, List.length_drop]
        omega
    have k2 : (kindN (lex s (lex s (lex s p).next).next).kind == 2) = false := by
      cases hk : (lex s (lex s (lex s p).next).next).kind <;> first | exact absurd hk h2 | rfl
    by_cases hst : fieldOf s p = 2
    rotate_left
    · refine rtest_num_none s hs d S gr p A c out w0 w hp hout M _ _ hv0 hv1 _ rfl hf13 hf13b (by rw [beq_eq_false_iff_ne]; omega) hp1 (by omega) hp2 (by omega) hx hy ?_ k0 k1 k2
      unfold testVal
      rw [if_neg (fun h => hi h.1), if_neg (fun h => h2 h.2), if_neg (fun h => hst h.1)]
    have hs2 : ((fieldOf s p : Int) == 2) = true := by rw [beq_iff_eq]; omega
    by_cases h3 : (lex s (lex s (lex s p).next).next).kind = .word
    rotate_left
    · refine rtest_status_kind s hs d S gr p A c out w0 w hp hout M _ _ hv0 hv1 _ rfl hf13 hf13b hs2 hp1 (by omega) hp2 (by omega) hx hy ?_ k0 k1 k2 ?_
      · unfold testVal
        rw [if_neg (fun h => hi h.1), if_neg (fun h => h2 h.2), if_neg (fun h => h3 h.2.1)]
      · cases hk : (lex s (lex s (lex s p).next).next).kind <;> first | exact absurd hk h3 | rfl
    have hfs := find_status (word_ne h3)
    have k3 : (kindN (lex s (lex s (lex s p).next).next).kind == 1) = true := by rw [h3]; rfl
    by_cases hidx : statusNames.idxOf (textOf s (lex s (lex s (lex s p).next).next)) < 7
    · refine rtest_status s hs d S gr p A c out w0 w hp hout M _ _ hv0 hv1 _ (hfs.1 hidx) hf13 hf13b hs2 hp1 (by omega) hp2 (by omega) (nx3 (by rw [h3]; simp)) (by omega) hx hy ?_ k0 k1 k2 k3 (by simp)
      unfold testVal
      rw [if_neg (fun h => hi h.1), if_neg (fun h => h2 h.2), if_pos ⟨hst, h3, hidx⟩]
    · refine rtest_status_none s hs d S gr p A c out w0 w hp hout M _ _ hv0 hv1 _ (hfs.2 hidx) hf13 hf13b hs2 hp1 (by omega) hp2 (by omega) hx hy ?_ k0 k1 k2 k3 (by decide)
      unfold testVal
      rw [if_neg (fun h => hi h.1), if_neg (fun h => h2 h.2), if_neg (fun h => hidx h.2.2)]
theorem rone_of (s : List UInt8) (hs : s.length ≤ 1048576) (d : Nat) (hd : d ≤ 32) (hone : d ≠ 32 → RAt 50 .one s (d + 1) (2 * (32 - (d + 1)))) (hany : d ≠ 32 → RAt 20 .any s (d + 1) (2 * (32 - d))) :
    RAt 50 .one s d (2 * (32 - d)) := by
  intro S gr p A c out w0 w hp hout M
  have hc : ((d + 1 : Nat) : Int) = (d : Int) + 1 := by omega
  by_cases hN : isWord s p wNot
  · obtain ⟨hk, ht⟩ := isNot_iff.1 hN
    have f0 : (kindN (lex s p).kind == 4) = false := by rw [hk]; rfl
    have f1 : (kindN (lex s p).kind == 1) = true := by rw [hk]; rfl
    have f2 : (textOf s (lex s p) == [110, 111, 116]) = true := by rw [ht]; rfl
    by_cases h32 : d = 32
    · exact rone_deep_not s hs d hd S gr p A c out w0 w hp hout M f0 f1 f2 hN h32
    · refine rone_not s hs d hd S gr p A c out w0 w hp hout M f0 f1 f2 hN h32 (Lib.hid fun S p A c out w0 w hp ho M => ?_)
      have := hone h32 S gr p A c out w0 w hp ho (by rw [hc]; exact M)
      rwa [hc] at this
  by_cases hO : isWord s p wOpen
  · obtain ⟨hk, ht⟩ := isOpen_iff.1 hO
    have f0 : (kindN (lex s p).kind == 4) = true := by rw [hk]; rfl
    have f1 : (textOf s (lex s p) == [40]) = true := by rw [ht]; rfl
    have f2 : (kindN (lex s p).kind == 1) = false := by rw [hk]; rfl
    by_cases h32 : d = 32
    · exact rone_deep_open s hs d hd S gr p A c out w0 w hp hout M f0 f1 f2 hO h32
    · refine rone_open s hs d hd S gr p A c out w0 w hp hout M f0 f1 f2 hO hN h32 (Lib.hid fun S p A c out w0 w hp ho M => ?_)
      have := hany h32 S gr p A c out w0 w hp ho (by rw [hc]; exact M)
      rwa [hc] at this
  have HT := Lib.hid (fun (S : Nat → Prop) (w0 w : World) (M : Mem S w0 [rx gr s p false 0 A out.length c (d : Int), ro A c out] w) => rtest_any s hs d S gr p A c out w0 w hp hout M)
  by_cases h1 : (lex s p).kind = .word
  · refine rone_test_word s hs d hd S gr p A c out w0 w hp hout M (by rw [h1]; rfl) (by rw [h1]; rfl) ?_ hN hO HT
    rw [beq_eq_false_iff_ne]
    exact fun e => hN ⟨.inl h1, e⟩
  by_cases h4 : (lex s p).kind = .mark
  · refine rone_test_mark s hs d hd S gr p A c out w0 w hp hout M (by rw [h4]; rfl) ?_ (by rw [h4]; rfl) hN hO HT
    rw [beq_eq_false_iff_ne]
    exact fun e => hO ⟨.inr h4, e⟩
  · refine rone_test_else s hs d hd S gr p A c out w0 w hp hout M ?_ ?_ hN hO HT
    · cases hk : (lex s p).kind <;> first | exact absurd hk h4 | rfl
    · cases hk : (lex s p).kind <;> first | exact absurd hk h1 | rfl
theorem rany_any (s : List UInt8) (hs : s.length ≤ 1048576) (d : Nat) (hd : d ≤ 32) (h : RAt 50 .one s d (2 * (32 - d))) : RAt 20 .any s d (2 * (32 - d) + 2) :=
  rany_of s hs d _ (by omega) (rall_of s hs d _ (by omega) h)
theorem rparser_at (s : List UInt8) (hs : s.length ≤ 1048576) : ∀ (k d : Nat), d + k = 32 → RAt 50 .one s d (2 * (32 - d)) ∧ RAt 20 .any s d (2 * (32 - d) + 2)
  | 0, d, h => by
    have h1 := rone_of s hs d (by omega) (fun h2 => absurd (by omega) h2) (fun h2 => absurd (by omega) h2)
    exact ⟨h1, rany_any s hs d (by omega) h1⟩
  | k + 1, d, h => by
    have ih := rparser_at s hs k (d + 1) (by omega)
    have h1 := rone_of s hs d (by omega) (fun _ => ih.1) (fun _ => by have := ih.2; rwa [show 2 * (32 - (d + 1)) + 2 = 2 * (32 - d) by omega] at this)
    exact ⟨h1, rany_any s hs d (by omega) h1⟩
theorem rparser_any (s : List UInt8) (hs : s.length ≤ 1048576) : RAt 20 .any s 0 66 := (rparser_at s hs 32 0 rfl).2
end Go.Proofs.YtkblkdnihppmnaaGreatDoor
