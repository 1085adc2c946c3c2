/- Parts of this work, one behind the other: FiltU. -/
import Derived.Test.YtkblkdnihppmnaaGreatDoorPkv12
import Derived.Test.YtkblkdnihppmnaaGreatDoorPkv1
/- Filters (layer 21): the program's parser (walk, fifth part): test (printed by gen_u.py). -/
namespace Go.Proofs.YtkblkdnihppmnaaGreatDoor
set_option linter.unusedSimpArgs false
set_option linter.unusedVariables false
open Go.RowKit Res Filt

abbrev namesText : List UInt8 := [114, 117, 110, 32, 116, 121, 112, 101, 32, 115, 116, 97, 116, 117, 115, 32, 98, 101, 103, 117, 110, 32, 101, 110, 100, 101, 100, 32, 100, 101, 97, 100, 108, 105, 110, 101, 32, 112, 97, 114, 101, 110, 116, 32, 101, 118, 101, 110, 116, 115, 32, 118, 97, 108, 117, 101, 32, 97, 48, 32, 97, 49, 32, 97, 50, 32, 97, 51]
abbrev statusText : List UInt8 := [114, 117, 110, 110, 105, 110, 103, 32, 99, 111, 109, 112, 108, 101, 116, 101, 100, 32, 102, 97, 105, 108, 101, 100, 32, 99, 97, 110, 99, 101, 108, 101, 100, 32, 115, 116, 111, 112, 112, 101, 100, 32, 116, 105, 109, 101, 100, 111, 117, 116, 32, 99, 111, 110, 116, 105, 110, 117, 101, 100]
theorem low_all {l : List UInt8} (h : l.all (fun b => decide (b.toNat < 128)) = true) : ∀ (j : Nat) b, l[j]? = some b → b.toNat < 128 := fun j b hj => by
  have := List.all_eq_true.1 h b (List.mem_of_getElem? hj)
  simpa using this
theorem place_names (x : List UInt8) (w : World) (hN : Nv w) : Calls Tryz.prog 72 #[str namesText, str x] w fun e w' => e = .returned (fi (placeOf fieldNums x)) ∧ Ext w w' :=
  place_any namesText fieldNums x (by decide) (low_all (by decide)) (by kernel_rfl) (by decide) w hN
theorem place_status (x : List UInt8) (w : World) (hN : Nv w) : Calls Tryz.prog 72 #[str statusText, str x] w fun e w' => e = .returned (fi (placeOf statusNames x)) ∧ Ext w w' :=
  place_any statusText statusNames x (by decide) (low_all (by decide)) (by kernel_rfl) (by decide) w hN
theorem trim_any (l : List UInt8) (h : l.all notQuote = true) (h64 : l.length ≤ 64) (w : World) : Calls Tryz.prog 73 #[str (34 :: (l ++ [34])), .string ⟨#[34]⟩] w fun e w' => e = .returned (str l) ∧ Ext w w' := by
  have hz : (⟨(34 :: (l ++ [34])).toArray⟩ : ByteArray).size ≤ 9223372036854775807 := by show (34 :: (l ++ [34])).toArray.size ≤ _; simp; omega
  refine (Tryz.strings_Trim_one ⟨(34 :: (l ++ [34])).toArray⟩ 34 (by decide) w hz).mono fun e w' ⟨h1, h2⟩ => ⟨?_, ?_⟩
  · rw [h1]
    have e1 : (⟨(34 :: (l ++ [34])).toArray⟩ : ByteArray).data.toList = 34 :: (l ++ [34]) := rfl
    rw [e1, trim_quoted h]
  · rcases h2 with rfl | rfl
    · exact Below.refl _ _
    · exact Ext.dr _
theorem parse_digits (t : List UInt8) (v : Int) (ht : t.length ≤ 1048576) (hv : Filt.numOf t = some v) (w : World) (hN : Nv w) : Calls Tryz.prog 34 #[str t, .int .i64 10, .int .i64 64] w fun e w' => e = .returned (.tuple #[.int .i64 v, .nilIface]) ∧ Ext w w' := by
  refine (parseInt_any t ht w hN).mono fun e w' ⟨hX, h⟩ => ⟨?_, hX⟩
  have hp : numP t = some v := by rw [num_same]; exact hv
  have hok : Lib.parseIntB 64 t = .ok v := by
    unfold numP at hp
    split at hp
    · rename_i u hu
      split at hp
      · cases hp; exact hu
      · cases hp
    · cases hp
  rcases h with ⟨u, hu, rfl⟩ | ⟨hno, _⟩
  · rw [hok] at hu; cases hu; rfl
  · exact absurd hok (hno v)
theorem kindN_eq {k : TK} {i : Int} {k' : TK} (h : k = k') (hi : kindN k' = i) : (kindN k == i) = true ∧ (kindN k != i) = false := by subst h; rw [hi]; simp
theorem kindN_no {k : TK} {i : Int} {k' : TK} (h : k ≠ k') (hb : k ≠ .bad) (hi : kindN k' = i) : (kindN k == i) = false ∧ (kindN k != i) = true := by
  have : kindN k ≠ i := by
    rw [← hi]
    intro e
    apply h
    cases k <;> cases k' <;> simp [kindN] at e ⊢
  simp [this]
/-- what test's walk leans on -/
structure TestC (s : List UInt8) (S : Nat → Prop) (g : Nat) (d : Int) (w0 : World) : Prop where
  nx : ∀ (p : Nat) (w : World), p ≤ s.length → (lex s p).kind ≠ .bad → Mem S w0 [rp g s p d] w → Calls Tryz.prog 16 #[.pointer (some ⟨g, 0, none⟩)] w (NxPost S s g p d w0)
  fl : ∀ (p : Nat) (w : World), Mem S w0 [rp g s p d] w → Calls Tryz.prog 18 #[.pointer (some ⟨g, 0, none⟩)] w fun e w' => e = .panicked (faultAt ((lex s p).at_ : Nat)) ∧ w = w'
  nv : ∀ (p : Nat) (w : World), Mem S w0 [rp g s p d] w → Nv w
set_option maxRecDepth 100000 in
set_option maxHeartbeats 800000 in
theorem test_kind (s : List UInt8) (hs : s.length ≤ 1048576) (S : Nat → Prop) (g : Nat) (d : Int) (w0 : World) (K : TestC s S g d w0) (p : Nat) (w : World) (hp : p ≤ s.length) (hb : (lex s p).kind ≠ .bad) (M : Mem S w0 [rp g s p d] w) (h0 : (lex s p).kind ≠ .word) :
    Calls Tryz.prog 61 #[.pointer (some ⟨g, 0, none⟩)] w fun e w' => RdPost S s g d w0 ((lang s).test true p) e w' := by
  have HF := Lib.hid K.fl
  have HX := Lib.hid K.nx
  obtain ⟨a0, a0'⟩ := kindN_no (i := 1) h0 hb rfl
  go_enter Tryz.func61, Tryz.ntmps61
  (try dsimp only); (repeat (first | (first | (go_at_call 18; (with_reducible refine (HF.out _ _ M).mono ?_); rintro _ w1 ⟨rfl, rfl⟩) | ((with_reducible refine wl_g ?_); first | go_big_want | go_skip | ((with_reducible refine wl_off (by kernel_rfl) ?_); (first | ((with_reducible refine fastK Tryz.prog rfl ?_); go_big_move) | (with_reducible refine fastN rfl ?_) | skip))) | ((with_reducible refine on_load ?_); (first | refine xl1 M ?_ | refine xlN M ?_); go_big_move)) | go_values | go_skip | go_guarded | go_step | go_upon))
  exact ⟨rfl, by rw [test_noField (fun h => h0 h.1)]; exact ⟨rfl, _, M⟩⟩
set_option maxRecDepth 100000 in
set_option maxHeartbeats 800000 in
theorem test_name (s : List UInt8) (hs : s.length ≤ 1048576) (S : Nat → Prop) (g : Nat) (d : Int) (w0 : World) (K : TestC s S g d w0) (p : Nat) (w : World) (hp : p ≤ s.length) (hb : (lex s p).kind ≠ .bad) (M : Mem S w0 [rp g s p d] w) (h0 : (lex s p).kind = .word) (hi : textOf s (lex s p) ≠ [105, 100]) (v0 : Int) (hv0 : placeOf fieldNums (textOf s (lex s p)) = v0) (hneg : v0 < 0) (hf : ¬ isField s p) :
    Calls Tryz.prog 61 #[.pointer (some ⟨g, 0, none⟩)] w fun e w' => RdPost S s g d w0 ((lang s).test true p) e w' := by
  have HF := Lib.hid K.fl
  have HX := Lib.hid K.nx
  have HPN : Hid (∀ w, Mem S w0 [rp g s p d] w → Calls Tryz.prog 72 #[str namesText, str (textOf s (lex s p))] w fun e w' => e = .returned (fi v0) ∧ Ext w w') := Lib.hid (fun w M => by rw [← hv0]; exact place_names _ w (K.nv p w M))
  obtain ⟨a0, a0'⟩ := kindN_eq (i := 1) h0 rfl
  have b0 : (textOf s (lex s p) == [105, 100]) = false := by simpa using hi
  have b0' : (textOf s (lex s p) != [105, 100]) = true := by simpa using hi
  have c0 : decide (v0 < 0) = true := by simpa using hneg
  clear hi hv0 h0
  go_enter Tryz.func61, Tryz.ntmps61
  (try dsimp only); (repeat (first | (first | (go_at_call 72; (first | (with_reducible refine (HPN.out _ M).mono ?_) | (with_reducible refine (HPS.out _ M).mono ?_)); rintro _ w1 ⟨rfl, hX⟩; replace M := M.ext hX; clear hX; dsimp only) | (go_at_call 18; (with_reducible refine (HF.out _ _ M).mono ?_); rintro _ w1 ⟨rfl, rfl⟩) | ((with_reducible refine wl_g ?_); first | go_big_want | go_skip | ((with_reducible refine wl_off (by kernel_rfl) ?_); (first | ((with_reducible refine fastK Tryz.prog rfl ?_); go_big_move) | (with_reducible refine fastN rfl ?_) | skip))) | ((with_reducible refine on_load ?_); (first | refine xl1 M ?_ | refine xlN M ?_); go_big_move)) | go_values | go_skip | go_guarded | go_step | go_upon))
  exact ⟨rfl, by rw [test_noField hf]; exact ⟨rfl, _, M⟩⟩
set_option maxRecDepth 100000 in
set_option maxHeartbeats 800000 in
theorem test_id_noMark (s : List UInt8) (hs : s.length ≤ 1048576) (S : Nat → Prop) (g : Nat) (d : Int) (w0 : World) (K : TestC s S g d w0) (p : Nat) (w : World) (hp : p ≤ s.length) (hb : (lex s p).kind ≠ .bad) (M : Mem S w0 [rp g s p d] w) (h0 : (lex s p).kind = .word) (hi : textOf s (lex s p) = [105, 100]) (hf : isField s p) (hb1 : (lex s (lex s p).next).kind ≠ .bad) (h1 : (lex s (lex s p).next).kind ≠ .mark) (hk : ¬ isAsk s (lex s p).next) :
    Calls Tryz.prog 61 #[.pointer (some ⟨g, 0, none⟩)] w fun e w' => RdPost S s g d w0 ((lang s).test true p) e w' := by
  have HF := Lib.hid K.fl
  have HX := Lib.hid K.nx
  obtain ⟨a0, a0'⟩ := kindN_eq (i := 1) h0 rfl
  have b0 : (textOf s (lex s p) == [105, 100]) = true := by rw [hi]; rfl
  have b0' : (textOf s (lex s p) != [105, 100]) = false := by rw [hi]; rfl
  have b1 : (textOf s (lex s p) == [115, 116, 97, 116, 117, 115]) = false := by rw [hi]; rfl
  have b1' : (textOf s (lex s p) != [115, 116, 97, 116, 117, 115]) = true := by rw [hi]; rfl
  clear hi h0
  obtain ⟨a1, a1'⟩ := kindN_no (i := 4) h1 hb1 rfl
  go_enter Tryz.func61, Tryz.ntmps61
  (try dsimp only); (repeat (first | (first | (go_at_call 16; (with_reducible refine (HX.out _ _ hp hb M).mono ?_); rintro _ w2 hx; rcases hx with ⟨ha1, hq1, hb1, rfl, M1⟩ | ⟨ha, rfl, cs, M1⟩; rotate_left; (focus (exact ⟨rfl, by rw [test_bad1 hf ha]; exact ⟨rfl, cs, M1⟩⟩)); replace M := M1; clear M1; dsimp only) | (go_at_call 18; (with_reducible refine (HF.out _ _ M).mono ?_); rintro _ w1 ⟨rfl, rfl⟩) | ((with_reducible refine wl_g ?_); first | go_big_want | go_skip | ((with_reducible refine wl_off (by kernel_rfl) ?_); (first | ((with_reducible refine fastK Tryz.prog rfl ?_); go_big_move) | (with_reducible refine fastN rfl ?_) | skip))) | ((with_reducible refine on_load ?_); (first | refine xl1 M ?_ | refine xlN M ?_); go_big_move)) | go_values | go_skip | go_guarded | go_step | go_upon))
  exact ⟨rfl, by rw [test_noAsk hf ha1 hk]; exact ⟨rfl, _, M⟩⟩
set_option maxRecDepth 100000 in
set_option maxHeartbeats 800000 in
theorem test_id_open (s : List UInt8) (hs : s.length ≤ 1048576) (S : Nat → Prop) (g : Nat) (d : Int) (w0 : World) (K : TestC s S g d w0) (p : Nat) (w : World) (hp : p ≤ s.length) (hb : (lex s p).kind ≠ .bad) (M : Mem S w0 [rp g s p d] w) (h0 : (lex s p).kind = .word) (hi : textOf s (lex s p) = [105, 100]) (hf : isField s p) (h1 : (lex s (lex s p).next).kind = .mark) (ht1 : textOf s (lex s (lex s p).next) = [40]) (hk : ¬ isAsk s (lex s p).next) :
    Calls Tryz.prog 61 #[.pointer (some ⟨g, 0, none⟩)] w fun e w' => RdPost S s g d w0 ((lang s).test true p) e w' := by
  have HF := Lib.hid K.fl
  have HX := Lib.hid K.nx
  obtain ⟨a0, a0'⟩ := kindN_eq (i := 1) h0 rfl
  have b0 : (textOf s (lex s p) == [105, 100]) = true := by rw [hi]; rfl
  have b0' : (textOf s (lex s p) != [105, 100]) = false := by rw [hi]; rfl
  have b1 : (textOf s (lex s p) == [115, 116, 97, 116, 117, 115]) = false := by rw [hi]; rfl
  have b1' : (textOf s (lex s p) != [115, 116, 97, 116, 117, 115]) = true := by rw [hi]; rfl
  clear hi h0
  obtain ⟨a1, a1'⟩ := kindN_eq (i := 4) h1 rfl
  have d0 : (textOf s (lex s (lex s p).next) == [40]) = true := by rw [ht1]; rfl
  have d0' : (textOf s (lex s (lex s p).next) != [40]) = false := by rw [ht1]; rfl
  clear h1 ht1
  go_enter Tryz.func61, Tryz.ntmps61
  (try dsimp only); (repeat (first | (first | (go_at_call 16; (with_reducible refine (HX.out _ _ hp hb M).mono ?_); rintro _ w2 hx; rcases hx with ⟨ha1, hq1, hb1, rfl, M1⟩ | ⟨ha, rfl, cs, M1⟩; rotate_left; (focus (exact ⟨rfl, by rw [test_bad1 hf ha]; exact ⟨rfl, cs, M1⟩⟩)); replace M := M1; clear M1; dsimp only) | (go_at_call 18; (with_reducible refine (HF.out _ _ M).mono ?_); rintro _ w1 ⟨rfl, rfl⟩) | ((with_reducible refine wl_g ?_); first | go_big_want | go_skip | ((with_reducible refine wl_off (by kernel_rfl) ?_); (first | ((with_reducible refine fastK Tryz.prog rfl ?_); go_big_move) | (with_reducible refine fastN rfl ?_) | skip))) | ((with_reducible refine on_load ?_); (first | refine xl1 M ?_ | refine xlN M ?_); go_big_move)) | go_values | go_skip | go_guarded | go_step | go_upon))
  exact ⟨rfl, by rw [test_noAsk hf ha1 hk]; exact ⟨rfl, _, M⟩⟩
set_option maxRecDepth 100000 in
set_option maxHeartbeats 800000 in
theorem test_id_close (s : List UInt8) (hs : s.length ≤ 1048576) (S : Nat → Prop) (g : Nat) (d : Int) (w0 : World) (K : TestC s S g d w0) (p : Nat) (w : World) (hp : p ≤ s.length) (hb : (lex s p).kind ≠ .bad) (M : Mem S w0 [rp g s p d] w) (h0 : (lex s p).kind = .word) (hi : textOf s (lex s p) = [105, 100]) (hf : isField s p) (h1 : (lex s (lex s p).next).kind = .mark) (ht1 : textOf s (lex s (lex s p).next) = [41]) (hk : ¬ isAsk s (lex s p).next) :
    Calls Tryz.prog 61 #[.pointer (some ⟨g, 0, none⟩)] w fun e w' => RdPost S s g d w0 ((lang s).test true p) e w' := by
  have HF := Lib.hid K.fl
  have HX := Lib.hid K.nx
  obtain ⟨a0, a0'⟩ := kindN_eq (i := 1) h0 rfl
  have b0 : (textOf s (lex s p) == [105, 100]) = true := by rw [hi]; rfl
  have b0' : (textOf s (lex s p) != [105, 100]) = false := by rw [hi]; rfl
  have b1 : (textOf s (lex s p) == [115, 116, 97, 116, 117, 115]) = false := by rw [hi]; rfl
  have b1' : (textOf s (lex s p) != [115, 116, 97, 116, 117, 115]) = true := by rw [hi]; rfl
  clear hi h0
  obtain ⟨a1, a1'⟩ := kindN_eq (i := 4) h1 rfl
  have d0 : (textOf s (lex s (lex s p).next) == [40]) = false := by rw [ht1]; rfl
  have d0' : (textOf s (lex s (lex s p).next) != [40]) = true := by rw [ht1]; rfl
  have d1 : (textOf s (lex s (lex s p).next) == [41]) = true := by rw [ht1]; rfl
  have d1' : (textOf s (lex s (lex s p).next) != [41]) = false := by rw [ht1]; rfl
  clear h1 ht1
  go_enter Tryz.func61, Tryz.ntmps61
  (try dsimp only); (repeat (first | (first | (go_at_call 16; (with_reducible refine (HX.out _ _ hp hb M).mono ?_); rintro _ w2 hx; rcases hx with ⟨ha1, hq1, hb1, rfl, M1⟩ | ⟨ha, rfl, cs, M1⟩; rotate_left; (focus (exact ⟨rfl, by rw [test_bad1 hf ha]; exact ⟨rfl, cs, M1⟩⟩)); replace M := M1; clear M1; dsimp only) | (go_at_call 18; (with_reducible refine (HF.out _ _ M).mono ?_); rintro _ w1 ⟨rfl, rfl⟩) | ((with_reducible refine wl_g ?_); first | go_big_want | go_skip | ((with_reducible refine wl_off (by kernel_rfl) ?_); (first | ((with_reducible refine fastK Tryz.prog rfl ?_); go_big_move) | (with_reducible refine fastN rfl ?_) | skip))) | ((with_reducible refine on_load ?_); (first | refine xl1 M ?_ | refine xlN M ?_); go_big_move)) | go_values | go_skip | go_guarded | go_step | go_upon))
  exact ⟨rfl, by rw [test_noAsk hf ha1 hk]; exact ⟨rfl, _, M⟩⟩
set_option maxRecDepth 100000 in
set_option maxHeartbeats 800000 in
theorem test_num_noMark (s : List UInt8) (hs : s.length ≤ 1048576) (S : Nat → Prop) (g : Nat) (d : Int) (w0 : World) (K : TestC s S g d w0) (p : Nat) (w : World) (hp : p ≤ s.length) (hb : (lex s p).kind ≠ .bad) (M : Mem S w0 [rp g s p d] w) (h0 : (lex s p).kind = .word) (hi : textOf s (lex s p) ≠ [105, 100]) (v0 : Int) (hv0 : placeOf fieldNums (textOf s (lex s p)) = v0) (hpos : 0 ≤ v0) (hf : isField s p) (hb1 : (lex s (lex s p).next).kind ≠ .bad) (h1 : (lex s (lex s p).next).kind ≠ .mark) (hk : ¬ isAsk s (lex s p).next) :
    Calls Tryz.prog 61 #[.pointer (some ⟨g, 0, none⟩)] w fun e w' => RdPost S s g d w0 ((lang s).test true p) e w' := by
  have HF := Lib.hid K.fl
  have HX := Lib.hid K.nx
  have HPN : Hid (∀ w, Mem S w0 [rp g s p d] w → Calls Tryz.prog 72 #[str namesText, str (textOf s (lex s p))] w fun e w' => e = .returned (fi v0) ∧ Ext w w') := Lib.hid (fun w M => by rw [← hv0]; exact place_names _ w (K.nv p w M))
  obtain ⟨a0, a0'⟩ := kindN_eq (i := 1) h0 rfl
  have b0 : (textOf s (lex s p) == [105, 100]) = false := by simpa using hi
  have b0' : (textOf s (lex s p) != [105, 100]) = true := by simpa using hi
  have c0 : decide (v0 < 0) = false := by simpa using hpos
  clear hi hv0 h0
  obtain ⟨a1, a1'⟩ := kindN_no (i := 4) h1 hb1 rfl
  go_enter Tryz.func61, Tryz.ntmps61
  (try dsimp only); (repeat (first | (first | (go_at_call 72; (first | (with_reducible refine (HPN.out _ M).mono ?_) | (with_reducible refine (HPS.out _ M).mono ?_)); rintro _ w1 ⟨rfl, hX⟩; replace M := M.ext hX; clear hX; dsimp only) | (go_at_call 16; (with_reducible refine (HX.out _ _ hp hb M).mono ?_); rintro _ w2 hx; rcases hx with ⟨ha1, hq1, hb1, rfl, M1⟩ | ⟨ha, rfl, cs, M1⟩; rotate_left; (focus (exact ⟨rfl, by rw [test_bad1 hf ha]; exact ⟨rfl, cs, M1⟩⟩)); replace M := M1; clear M1; dsimp only) | (go_at_call 18; (with_reducible refine (HF.out _ _ M).mono ?_); rintro _ w1 ⟨rfl, rfl⟩) | ((with_reducible refine wl_g ?_); first | go_big_want | go_skip | ((with_reducible refine wl_off (by kernel_rfl) ?_); (first | ((with_reducible refine fastK Tryz.prog rfl ?_); go_big_move) | (with_reducible refine fastN rfl ?_) | skip))) | ((with_reducible refine on_load ?_); (first | refine xl1 M ?_ | refine xlN M ?_); go_big_move)) | go_values | go_skip | go_guarded | go_step | go_upon))
  exact ⟨rfl, by rw [test_noAsk hf ha1 hk]; exact ⟨rfl, _, M⟩⟩
set_option maxRecDepth 100000 in
set_option maxHeartbeats 800000 in
theorem test_num_open (s : List UInt8) (hs : s.length ≤ 1048576) (S : Nat → Prop) (g : Nat) (d : Int) (w0 : World) (K : TestC s S g d w0) (p : Nat) (w : World) (hp : p ≤ s.length) (hb : (lex s p).kind ≠ .bad) (M : Mem S w0 [rp g s p d] w) (h0 : (lex s p).kind = .word) (hi : textOf s (lex s p) ≠ [105, 100]) (v0 : Int) (hv0 : placeOf fieldNums (textOf s (lex s p)) = v0) (hpos : 0 ≤ v0) (hf : isField s p) (h1 : (lex s (lex s p).next).kind = .mark) (ht1 : textOf s (lex s (lex s p).next) = [40]) (hk : ¬ isAsk s (lex s p).next) :
    Calls Tryz.prog 61 #[.pointer (some ⟨g, 0, none⟩)] w fun e w' => RdPost S s g d w0 ((lang s).test true p) e w' := by
  have HF := Lib.hid K.fl
  have HX := Lib.hid K.nx
  have HPN : Hid (∀ w, Mem S w0 [rp g s p d] w → Calls Tryz.prog 72 #[str namesText, str (textOf s (lex s p))] w fun e w' => e = .returned (fi v0) ∧ Ext w w') := Lib.hid (fun w M => by rw [← hv0]; exact place_names _ w (K.nv p w M))
  obtain ⟨a0, a0'⟩ := kindN_eq (i := 1) h0 rfl
  have b0 : (textOf s (lex s p) == [105, 100]) = false := by simpa using hi
  have b0' : (textOf s (lex s p) != [105, 100]) = true := by simpa using hi
  have c0 : decide (v0 < 0) = false := by simpa using hpos
  clear hi hv0 h0
  obtain ⟨a1, a1'⟩ := kindN_eq (i := 4) h1 rfl
  have d0 : (textOf s (lex s (lex s p).next) == [40]) = true := by rw [ht1]; rfl
  have d0' : (textOf s (lex s (lex s p).next) != [40]) = false := by rw [ht1]; rfl
  clear h1 ht1
  go_enter Tryz.func61, Tryz.ntmps61
  (try dsimp only); (repeat (first | (first | (go_at_call 72; (first | (with_reducible refine (HPN.out _ M).mono ?_) | (with_reducible refine (HPS.out _ M).mono ?_)); rintro _ w1 ⟨rfl, hX⟩; replace M := M.ext hX; clear hX; dsimp only) | (go_at_call 16; (with_reducible refine (HX.out _ _ hp hb M).mono ?_); rintro _ w2 hx; rcases hx with ⟨ha1, hq1, hb1, rfl, M1⟩ | ⟨ha, rfl, cs, M1⟩; rotate_left; (focus (exact ⟨rfl, by rw [test_bad1 hf ha]; exact ⟨rfl, cs, M1⟩⟩)); replace M := M1; clear M1; dsimp only) | (go_at_call 18; (with_reducible refine (HF.out _ _ M).mono ?_); rintro _ w1 ⟨rfl, rfl⟩) | ((with_reducible refine wl_g ?_); first | go_big_want | go_skip | ((with_reducible refine wl_off (by kernel_rfl) ?_); (first | ((with_reducible refine fastK Tryz.prog rfl ?_); go_big_move) | (with_reducible refine fastN rfl ?_) | skip))) | ((with_reducible refine on_load ?_); (first | refine xl1 M ?_ | refine xlN M ?_); go_big_move)) | go_values | go_skip | go_guarded | go_step | go_upon))
  exact ⟨rfl, by rw [test_noAsk hf ha1 hk]; exact ⟨rfl, _, M⟩⟩
set_option maxRecDepth 100000 in
set_option maxHeartbeats 800000 in
theorem test_num_close (s : List UInt8) (hs : s.length ≤ 1048576) (S : Nat → Prop) (g : Nat) (d : Int) (w0 : World) (K : TestC s S g d w0) (p : Nat) (w : World) (hp : p ≤ s.length) (hb : (lex s p).kind ≠ .bad) (M : Mem S w0 [rp g s p d] w) (h0 : (lex s p).kind = .word) (hi : textOf s (lex s p) ≠ [105, 100]) (v0 : Int) (hv0 : placeOf fieldNums (textOf s (lex s p)) = v0) (hpos : 0 ≤ v0) (hf : isField s p) (h1 : (lex s (lex s p).next).kind = .mark) (ht1 : textOf s (lex s (lex s p).next) = [41]) (hk : ¬ isAsk s (lex s p).next) :
    Calls Tryz.prog 61 #[.pointer (some ⟨g, 0, none⟩)] w fun e w' => RdPost S s g d w0 ((lang s).test true p) e w' := by
  have HF := Lib.hid K.fl
  have HX := Lib.hid K.nx
  have HPN : Hid (∀ w, Mem S w0 [rp g s p d] w → Calls Tryz.prog 72 #[str namesText, str (textOf s (lex s p))] w fun e w' => e = .returned (fi v0) ∧ Ext w w') := Lib.hid (fun w M => by rw [← hv0]; exact place_names _ w (K.nv p w M))
  obtain ⟨a0, a0'⟩ := kindN_eq (i := 1) h0 rfl
  have b0 : (textOf s (lex s p) == [105, 100]) = false := by simpa using hi
  have b0' : (textOf s (lex s p) != [105, 100]) = true := by simpa using hi
  have c0 : decide (v0 < 0) = false := by simpa using hpos
  clear hi hv0 h0
  obtain ⟨a1, a1'⟩ := kindN_eq (i := 4) h1 rfl
  have d0 : (textOf s (lex s (lex s p).next) == [40]) = false := by rw [ht1]; rfl
  have d0' : (textOf s (lex s (lex s p).next) != [40]) = true := by rw [ht1]; rfl
  have d1 : (textOf s (lex s (lex s p).next) == [41]) = true := by rw [ht1]; rfl
  have d1' : (textOf s (lex s (lex s p).next) != [41]) = false := by rw [ht1]; rfl
  clear h1 ht1
  go_enter Tryz.func61, Tryz.ntmps61
  (try dsimp only); (repeat (first | (first | (go_at_call 72; (first | (with_reducible refine (HPN.out _ M).mono ?_) | (with_reducible refine (HPS.out _ M).mono ?_)); rintro _ w1 ⟨rfl, hX⟩; replace M := M.ext hX; clear hX; dsimp only) | (go_at_call 16; (with_reducible refine (HX.out _ _ hp hb M).mono ?_); rintro _ w2 hx; rcases hx with ⟨ha1, hq1, hb1, rfl, M1⟩ | ⟨ha, rfl, cs, M1⟩; rotate_left; (focus (exact ⟨rfl, by rw [test_bad1 hf ha]; exact ⟨rfl, cs, M1⟩⟩)); replace M := M1; clear M1; dsimp only) | (go_at_call 18; (with_reducible refine (HF.out _ _ M).mono ?_); rintro _ w1 ⟨rfl, rfl⟩) | ((with_reducible refine wl_g ?_); first | go_big_want | go_skip | ((with_reducible refine wl_off (by kernel_rfl) ?_); (first | ((with_reducible refine fastK Tryz.prog rfl ?_); go_big_move) | (with_reducible refine fastN rfl ?_) | skip))) | ((with_reducible refine on_load ?_); (first | refine xl1 M ?_ | refine xlN M ?_); go_big_move)) | go_values | go_skip | go_guarded | go_step | go_upon))
  exact ⟨rfl, by rw [test_noAsk hf ha1 hk]; exact ⟨rfl, _, M⟩⟩
end Go.Proofs.YtkblkdnihppmnaaGreatDoor
