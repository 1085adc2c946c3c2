/- Parts of this work, one behind the other: FiltUb. -/
import Derived.Test.YtkblkdnihppmnaaGreatDoorPkv14
/- Filters (layer 21): the program's parser (walk, sixth part): test's values (printed by gen_u.py). -/
namespace Go.Proofs.YtkblkdnihppmnaaGreatDoor
set_option linter.unusedSimpArgs false
set_option linter.unusedVariables false
open Go.RowKit Res Filt

set_option maxRecDepth 100000 in
set_option maxHeartbeats 800000 in
theorem test_id_bad1 (s : List UInt8) (hs : s.length ≤ 1048576) (S : Nat → Prop) (g : Nat) (d : Int) (w0 : World) (K : TestC s S g d w0) (p : Nat) (w : World) (hp : p ≤ s.length) (hb : (lex s p).kind ≠ .bad) (M : Mem S w0 [rp g s p d] w) (h0 : (lex s p).kind = .word) (hi : textOf s (lex s p) = [105, 100]) (hf : isField s p) (hbd : (lex s (lex s p).next).kind = .bad) :
    Calls Tryz.prog 61 #[.pointer (some ⟨g, 0, none⟩)] w fun e w' => RdPost S s g d w0 ((lang s).test true p) e w' := by
  have HF := Lib.hid K.fl
  have HX := Lib.hid K.nx
  obtain ⟨a0, a0'⟩ := kindN_eq (i := 1) h0 rfl
  have b0 : (textOf s (lex s p) == [105, 100]) = true := by rw [hi]; rfl
  have b0' : (textOf s (lex s p) != [105, 100]) = false := by rw [hi]; rfl
  have b1 : (textOf s (lex s p) == [115, 116, 97, 116, 117, 115]) = false := by rw [hi]; rfl
  have b1' : (textOf s (lex s p) != [115, 116, 97, 116, 117, 115]) = true := by rw [hi]; rfl
  clear hi h0
  go_enter Tryz.func61, Tryz.ntmps61
  (try dsimp only); (repeat (first | (first | (go_at_call 16; (with_reducible refine (HX.out _ _ hp hb M).mono ?_); rintro _ w2 hx; rcases hx with ⟨ha1, hq1, hb1, rfl, M1⟩ | ⟨ha, rfl, cs, M1⟩; (focus (exact absurd hbd hb1))) | ((with_reducible refine wl_g ?_); first | go_big_want | go_skip | ((with_reducible refine wl_off (by kernel_rfl) ?_); (first | ((with_reducible refine fastK Tryz.prog rfl ?_); go_big_move) | (with_reducible refine fastN rfl ?_) | skip))) | ((with_reducible refine on_load ?_); (first | refine xl1 M ?_ | refine xlN M ?_); go_big_move)) | go_values | go_skip | go_guarded | go_step | go_upon))
  exact ⟨rfl, by rw [test_bad1 hf ha]; exact ⟨rfl, cs, M1⟩⟩
set_option maxRecDepth 100000 in
set_option maxHeartbeats 800000 in
theorem test_id_bad2 (s : List UInt8) (hs : s.length ≤ 1048576) (S : Nat → Prop) (g : Nat) (d : Int) (w0 : World) (K : TestC s S g d w0) (p : Nat) (w : World) (hp : p ≤ s.length) (hb : (lex s p).kind ≠ .bad) (M : Mem S w0 [rp g s p d] w) (h0 : (lex s p).kind = .word) (hi : textOf s (lex s p) = [105, 100]) (hf : isField s p) (h1 : (lex s (lex s p).next).kind = .mark) (ho : textOf s (lex s (lex s p).next) ≠ [40]) (hc : textOf s (lex s (lex s p).next) ≠ [41]) (hk : isAsk s (lex s p).next) (hask : askNames.getD (askOf s (lex s p).next) [] = textOf s (lex s (lex s p).next)) (hbd : (lex s (lex s (lex s p).next).next).kind = .bad) :
    Calls Tryz.prog 61 #[.pointer (some ⟨g, 0, none⟩)] w fun e w' => RdPost S s g d w0 ((lang s).test true p) e w' := by
  have HF := Lib.hid K.fl
  have HX := Lib.hid K.nx
  obtain ⟨a0, a0'⟩ := kindN_eq (i := 1) h0 rfl
  have b0 : (textOf s (lex s p) == [105, 100]) = true := by rw [hi]; rfl
  have b0' : (textOf s (lex s p) != [105, 100]) = false := by rw [hi]; rfl
  have b1 : (textOf s (lex s p) == [115, 116, 97, 116, 117, 115]) = false := by rw [hi]; rfl
  have b1' : (textOf s (lex s p) != [115, 116, 97, 116, 117, 115]) = true := by rw [hi]; rfl
  clear hi h0
  obtain ⟨a1, a1'⟩ := kindN_eq (i := 4) h1 rfl
  have d0 : (textOf s (lex s (lex s p).next) == [40]) = false := by simpa using ho
  have d0' : (textOf s (lex s (lex s p).next) != [40]) = true := by simpa using ho
  have d1 : (textOf s (lex s (lex s p).next) == [41]) = false := by simpa using hc
  have d1' : (textOf s (lex s (lex s p).next) != [41]) = true := by simpa using hc
  clear h1 ho hc
  go_enter Tryz.func61, Tryz.ntmps61
  (try dsimp only); (repeat (first | (first | (go_at_call 16; (first | ((with_reducible refine (HX.out _ _ hq1 hb1 M).mono ?_); rintro _ w2 hx; rcases hx with ⟨ha2, hq2, hb2, rfl, M1⟩ | ⟨ha, rfl, cs, M1⟩; (focus (exact absurd hbd hb2))) | ((with_reducible refine (HX.out _ _ hp hb M).mono ?_); rintro _ w2 hx; rcases hx with ⟨ha1, hq1, hb1, rfl, M1⟩ | ⟨ha, rfl, cs, M1⟩; rotate_left; (focus (exact ⟨rfl, by rw [test_bad1 hf ha]; exact ⟨rfl, cs, M1⟩⟩)); replace M := M1; clear M1; dsimp only))) | ((with_reducible refine wl_g ?_); first | go_big_want | go_skip | ((with_reducible refine wl_off (by kernel_rfl) ?_); (first | ((with_reducible refine fastK Tryz.prog rfl ?_); go_big_move) | (with_reducible refine fastN rfl ?_) | skip))) | ((with_reducible refine on_load ?_); (first | refine xl1 M ?_ | refine xlN M ?_); go_big_move)) | go_values | go_skip | go_guarded | go_step | go_upon))
  exact ⟨rfl, by rw [test_bad2 hf ha1 hk ha]; exact ⟨rfl, cs, M1⟩⟩
set_option maxRecDepth 100000 in
set_option maxHeartbeats 800000 in
theorem test_num_bad1 (s : List UInt8) (hs : s.length ≤ 1048576) (S : Nat → Prop) (g : Nat) (d : Int) (w0 : World) (K : TestC s S g d w0) (p : Nat) (w : World) (hp : p ≤ s.length) (hb : (lex s p).kind ≠ .bad) (M : Mem S w0 [rp g s p d] w) (h0 : (lex s p).kind = .word) (hi : textOf s (lex s p) ≠ [105, 100]) (v0 : Int) (hv0 : placeOf fieldNums (textOf s (lex s p)) = v0) (hpos : 0 ≤ v0) (hf : isField s p) (hbd : (lex s (lex s p).next).kind = .bad) :
    Calls Tryz.prog 61 #[.pointer (some ⟨g, 0, none⟩)] w fun e w' => RdPost S s g d w0 ((lang s).test true p) e w' := by
  have HF := Lib.hid K.fl
  have HX := Lib.hid K.nx
  have HPN : Hid (∀ w, Mem S w0 [rp g s p d] w → Calls Tryz.prog 72 #[str namesText, str (textOf s (lex s p))] w fun e w' => e = .returned (fi v0) ∧ Ext w w') := Lib.hid (fun w M => by rw [← hv0]; exact place_names _ w (K.nv p w M))
  obtain ⟨a0, a0'⟩ := kindN_eq (i := 1) h0 rfl
  have b0 : (textOf s (lex s p) == [105, 100]) = false := by simpa using hi
  have b0' : (textOf s (lex s p) != [105, 100]) = true := by simpa using hi
  have c0 : decide (v0 < 0) = false := by simpa using hpos
  clear hi hv0 h0
  go_enter Tryz.func61, Tryz.ntmps61
  (try dsimp only); (repeat (first | (first | (go_at_call 72; (first | (with_reducible refine (HPN.out _ M).mono ?_) | (with_reducible refine (HPS.out _ M).mono ?_)); rintro _ w1 ⟨rfl, hX⟩; replace M := M.ext hX; clear hX; dsimp only) | (go_at_call 16; (with_reducible refine (HX.out _ _ hp hb M).mono ?_); rintro _ w2 hx; rcases hx with ⟨ha1, hq1, hb1, rfl, M1⟩ | ⟨ha, rfl, cs, M1⟩; (focus (exact absurd hbd hb1))) | ((with_reducible refine wl_g ?_); first | go_big_want | go_skip | ((with_reducible refine wl_off (by kernel_rfl) ?_); (first | ((with_reducible refine fastK Tryz.prog rfl ?_); go_big_move) | (with_reducible refine fastN rfl ?_) | skip))) | ((with_reducible refine on_load ?_); (first | refine xl1 M ?_ | refine xlN M ?_); go_big_move)) | go_values | go_skip | go_guarded | go_step | go_upon))
  exact ⟨rfl, by rw [test_bad1 hf ha]; exact ⟨rfl, cs, M1⟩⟩
set_option maxRecDepth 100000 in
set_option maxHeartbeats 800000 in
theorem test_num_bad2 (s : List UInt8) (hs : s.length ≤ 1048576) (S : Nat → Prop) (g : Nat) (d : Int) (w0 : World) (K : TestC s S g d w0) (p : Nat) (w : World) (hp : p ≤ s.length) (hb : (lex s p).kind ≠ .bad) (M : Mem S w0 [rp g s p d] w) (h0 : (lex s p).kind = .word) (hi : textOf s (lex s p) ≠ [105, 100]) (v0 : Int) (hv0 : placeOf fieldNums (textOf s (lex s p)) = v0) (hpos : 0 ≤ v0) (hf : isField s p) (h1 : (lex s (lex s p).next).kind = .mark) (ho : textOf s (lex s (lex s p).next) ≠ [40]) (hc : textOf s (lex s (lex s p).next) ≠ [41]) (hk : isAsk s (lex s p).next) (hask : askNames.getD (askOf s (lex s p).next) [] = textOf s (lex s (lex s p).next)) (hbd : (lex s (lex s (lex s p).next).next).kind = .bad) :
    Calls Tryz.prog 61 #[.pointer (some ⟨g, 0, none⟩)] w fun e w' => RdPost S s g d w0 ((lang s).test true p) e w' := by
  have HF := Lib.hid K.fl
  have HX := Lib.hid K.nx
  have HPN : Hid (∀ w, Mem S w0 [rp g s p d] w → Calls Tryz.prog 72 #[str namesText, str (textOf s (lex s p))] w fun e w' => e = .returned (fi v0) ∧ Ext w w') := Lib.hid (fun w M => by rw [← hv0]; exact place_names _ w (K.nv p w M))
  obtain ⟨a0, a0'⟩ := kindN_eq (i := 1) h0 rfl
  have b0 : (textOf s (lex s p) == [105, 100]) = false := by simpa using hi
  have b0' : (textOf s (lex s p) != [105, 100]) = true := by simpa using hi
  have c0 : decide (v0 < 0) = false := by simpa using hpos
  clear hi hv0 h0
  obtain ⟨a1, a1'⟩ := kindN_eq (i := 4) h1 rfl
  have d0 : (textOf s (lex s (lex s p).next) == [40]) = false := by simpa using ho
  have d0' : (textOf s (lex s (lex s p).next) != [40]) = true := by simpa using ho
  have d1 : (textOf s (lex s (lex s p).next) == [41]) = false := by simpa using hc
  have d1' : (textOf s (lex s (lex s p).next) != [41]) = true := by simpa using hc
  clear h1 ho hc
  go_enter Tryz.func61, Tryz.ntmps61
  (try dsimp only); (repeat (first | (first | (go_at_call 72; (first | (with_reducible refine (HPN.out _ M).mono ?_) | (with_reducible refine (HPS.out _ M).mono ?_)); rintro _ w1 ⟨rfl, hX⟩; replace M := M.ext hX; clear hX; dsimp only) | (go_at_call 16; (first | ((with_reducible refine (HX.out _ _ hq1 hb1 M).mono ?_); rintro _ w2 hx; rcases hx with ⟨ha2, hq2, hb2, rfl, M1⟩ | ⟨ha, rfl, cs, M1⟩; (focus (exact absurd hbd hb2))) | ((with_reducible refine (HX.out _ _ hp hb M).mono ?_); rintro _ w2 hx; rcases hx with ⟨ha1, hq1, hb1, rfl, M1⟩ | ⟨ha, rfl, cs, M1⟩; rotate_left; (focus (exact ⟨rfl, by rw [test_bad1 hf ha]; exact ⟨rfl, cs, M1⟩⟩)); replace M := M1; clear M1; dsimp only))) | ((with_reducible refine wl_g ?_); first | go_big_want | go_skip | ((with_reducible refine wl_off (by kernel_rfl) ?_); (first | ((with_reducible refine fastK Tryz.prog rfl ?_); go_big_move) | (with_reducible refine fastN rfl ?_) | skip))) | ((with_reducible refine on_load ?_); (first | refine xl1 M ?_ | refine xlN M ?_); go_big_move)) | go_values | go_skip | go_guarded | go_step | go_upon))
  exact ⟨rfl, by rw [test_bad2 hf ha1 hk ha]; exact ⟨rfl, cs, M1⟩⟩
set_option maxRecDepth 100000 in
set_option maxHeartbeats 800000 in
theorem test_id_quoted (s : List UInt8) (hs : s.length ≤ 1048576) (S : Nat → Prop) (g : Nat) (d : Int) (w0 : World) (K : TestC s S g d w0) (p : Nat) (w : World) (hp : p ≤ s.length) (hb : (lex s p).kind ≠ .bad) (M : Mem S w0 [rp g s p d] w) (h0 : (lex s p).kind = .word) (hi : textOf s (lex s p) = [105, 100]) (hf : isField s p) (h1 : (lex s (lex s p).next).kind = .mark) (ho : textOf s (lex s (lex s p).next) ≠ [40]) (hc : textOf s (lex s (lex s p).next) ≠ [41]) (hk : isAsk s (lex s p).next) (hask : askNames.getD (askOf s (lex s p).next) [] = textOf s (lex s (lex s p).next)) (l : List UInt8) (h2 : (lex s (lex s (lex s p).next).next).kind = .quoted) (ht2 : textOf s (lex s (lex s (lex s p).next).next) = 34 :: (l ++ [34])) (hl : l.all notQuote = true) (h64 : l.length ≤ 64) (hv : testVal s (fieldOf s p) (askOf s (lex s p).next) (lex s (lex s p).next).next = some (.idt (askOf s (lex s p).next) l)) :
    Calls Tryz.prog 61 #[.pointer (some ⟨g, 0, none⟩)] w fun e w' => RdPost S s g d w0 ((lang s).test true p) e w' := by
  have HF := Lib.hid K.fl
  have HX := Lib.hid K.nx
  have HTR : Hid (∀ w, Calls Tryz.prog 73 #[str (textOf s (lex s (lex s (lex s p).next).next)), .string ⟨#[34]⟩] w fun e w' => e = .returned (str l) ∧ Ext w w') := Lib.hid (fun w => by rw [ht2]; exact trim_any l hl h64 w)
  obtain ⟨a0, a0'⟩ := kindN_eq (i := 1) h0 rfl
  have b0 : (textOf s (lex s p) == [105, 100]) = true := by rw [hi]; rfl
  have b0' : (textOf s (lex s p) != [105, 100]) = false := by rw [hi]; rfl
  have b1 : (textOf s (lex s p) == [115, 116, 97, 116, 117, 115]) = false := by rw [hi]; rfl
  have b1' : (textOf s (lex s p) != [115, 116, 97, 116, 117, 115]) = true := by rw [hi]; rfl
  clear hi h0
  obtain ⟨a1, a1'⟩ := kindN_eq (i := 4) h1 rfl
  have d0 : (textOf s (lex s (lex s p).next) == [40]) = false := by simpa using ho
  have d0' : (textOf s (lex s (lex s p).next) != [40]) = true := by simpa using ho
  have d1 : (textOf s (lex s (lex s p).next) == [41]) = false := by simpa using hc
  have d1' : (textOf s (lex s (lex s p).next) != [41]) = true := by simpa using hc
  clear h1 ho hc
  obtain ⟨a2, a2'⟩ := kindN_eq (i := 3) h2 rfl
  clear h2 ht2 hl
  go_enter Tryz.func61, Tryz.ntmps61
  (try dsimp only); (repeat (first | (first | (go_at_call 73; (with_reducible refine (HTR.out _).mono ?_); rintro _ w1 ⟨rfl, hX⟩; replace M := M.ext hX; clear hX; dsimp only) | (go_at_call 16; (first | ((with_reducible refine (HX.out _ _ hq2 hb2 M).mono ?_); rintro _ w2 hx; rcases hx with ⟨ha3, hq3, hb3, rfl, M1⟩ | ⟨ha, rfl, cs, M1⟩; rotate_left; (focus (exact ⟨rfl, by rw [test_bad3 hf ha1 hk ha2 hv ha]; exact ⟨rfl, cs, M1⟩⟩))) | ((with_reducible refine (HX.out _ _ hq1 hb1 M).mono ?_); rintro _ w2 hx; rcases hx with ⟨ha2, hq2, hb2, rfl, M1⟩ | ⟨ha, rfl, cs, M1⟩; rotate_left; (focus (exact ⟨rfl, by rw [test_bad2 hf ha1 hk ha]; exact ⟨rfl, cs, M1⟩⟩))) | ((with_reducible refine (HX.out _ _ hp hb M).mono ?_); rintro _ w2 hx; rcases hx with ⟨ha1, hq1, hb1, rfl, M1⟩ | ⟨ha, rfl, cs, M1⟩; rotate_left; (focus (exact ⟨rfl, by rw [test_bad1 hf ha]; exact ⟨rfl, cs, M1⟩⟩)))); replace M := M1; clear M1; dsimp only) | ((with_reducible refine wl_g ?_); first | go_big_want | go_skip | ((with_reducible refine wl_off (by kernel_rfl) ?_); (first | ((with_reducible refine fastK Tryz.prog rfl ?_); go_big_move) | (with_reducible refine fastN rfl ?_) | skip))) | ((with_reducible refine on_load ?_); (first | refine xl1 M ?_ | refine xlN M ?_); go_big_move)) | go_values | go_skip | go_guarded | go_step | go_upon))
  exact ret_m1 rfl (Out.tmp rfl) rfl (by rw [test_ok hf ha1 hk ha2 hv ha3]; exact ⟨by show _ = Ending.returned (ndV (.idt (askOf s (lex s p).next) l)); unfold ndV; rw [hask]; rfl, hq3, hb3, M⟩)
set_option maxRecDepth 100000 in
set_option maxHeartbeats 800000 in
theorem test_id_none (s : List UInt8) (hs : s.length ≤ 1048576) (S : Nat → Prop) (g : Nat) (d : Int) (w0 : World) (K : TestC s S g d w0) (p : Nat) (w : World) (hp : p ≤ s.length) (hb : (lex s p).kind ≠ .bad) (M : Mem S w0 [rp g s p d] w) (h0 : (lex s p).kind = .word) (hi : textOf s (lex s p) = [105, 100]) (hf : isField s p) (h1 : (lex s (lex s p).next).kind = .mark) (ho : textOf s (lex s (lex s p).next) ≠ [40]) (hc : textOf s (lex s (lex s p).next) ≠ [41]) (hk : isAsk s (lex s p).next) (hask : askNames.getD (askOf s (lex s p).next) [] = textOf s (lex s (lex s p).next)) (hb2 : (lex s (lex s (lex s p).next).next).kind ≠ .bad) (h2 : (lex s (lex s (lex s p).next).next).kind ≠ .quoted) (hv : testVal s (fieldOf s p) (askOf s (lex s p).next) (lex s (lex s p).next).next = none) :
    Calls Tryz.prog 61 #[.pointer (some ⟨g, 0, none⟩)] w fun e w' => RdPost S s g d w0 ((lang s).test true p) e w' := by
  have HF := Lib.hid K.fl
  have HX := Lib.hid K.nx
  obtain ⟨a0, a0'⟩ := kindN_eq (i := 1) h0 rfl
  have b0 : (textOf s (lex s p) == [105, 100]) = true := by rw [hi]; rfl
  have b0' : (textOf s (lex s p) != [105, 100]) = false := by rw [hi]; rfl
  have b1 : (textOf s (lex s p) == [115, 116, 97, 116, 117, 115]) = false := by rw [hi]; rfl
  have b1' : (textOf s (lex s p) != [115, 116, 97, 116, 117, 115]) = true := by rw [hi]; rfl
  clear hi h0
  obtain ⟨a1, a1'⟩ := kindN_eq (i := 4) h1 rfl
  have d0 : (textOf s (lex s (lex s p).next) == [40]) = false := by simpa using ho
  have d0' : (textOf s (lex s (lex s p).next) != [40]) = true := by simpa using ho
  have d1 : (textOf s (lex s (lex s p).next) == [41]) = false := by simpa using hc
  have d1' : (textOf s (lex s (lex s p).next) != [41]) = true := by simpa using hc
  clear h1 ho hc
  obtain ⟨a2, a2'⟩ := kindN_no (i := 3) h2 hb2 rfl
  clear h2
  go_enter Tryz.func61, Tryz.ntmps61
  (try dsimp only); (repeat (first | (first | (go_at_call 16; (first | ((with_reducible refine (HX.out _ _ hq2 hb2 M).mono ?_); rintro _ w2 hx; rcases hx with ⟨ha3, hq3, hb3, rfl, M1⟩ | ⟨ha, rfl, cs, M1⟩; rotate_left; (focus (exact ⟨rfl, by rw [test_bad3 hf ha1 hk ha2 hv ha]; exact ⟨rfl, cs, M1⟩⟩))) | ((with_reducible refine (HX.out _ _ hq1 hb1 M).mono ?_); rintro _ w2 hx; rcases hx with ⟨ha2, hq2, hb2, rfl, M1⟩ | ⟨ha, rfl, cs, M1⟩; rotate_left; (focus (exact ⟨rfl, by rw [test_bad2 hf ha1 hk ha]; exact ⟨rfl, cs, M1⟩⟩))) | ((with_reducible refine (HX.out _ _ hp hb M).mono ?_); rintro _ w2 hx; rcases hx with ⟨ha1, hq1, hb1, rfl, M1⟩ | ⟨ha, rfl, cs, M1⟩; rotate_left; (focus (exact ⟨rfl, by rw [test_bad1 hf ha]; exact ⟨rfl, cs, M1⟩⟩)))); replace M := M1; clear M1; dsimp only) | (go_at_call 18; (with_reducible refine (HF.out _ _ M).mono ?_); rintro _ w1 ⟨rfl, rfl⟩) | ((with_reducible refine wl_g ?_); first | go_big_want | go_skip | ((with_reducible refine wl_off (by kernel_rfl) ?_); (first | ((with_reducible refine fastK Tryz.prog rfl ?_); go_big_move) | (with_reducible refine fastN rfl ?_) | skip))) | ((with_reducible refine on_load ?_); (first | refine xl1 M ?_ | refine xlN M ?_); go_big_move)) | go_values | go_skip | go_guarded | go_step | go_upon))
  exact ⟨rfl, by rw [test_none hf ha1 hk ha2 hv]; exact ⟨rfl, _, M⟩⟩
set_option maxRecDepth 100000 in
set_option maxHeartbeats 800000 in
theorem test_num_digits (s : List UInt8) (hs : s.length ≤ 1048576) (S : Nat → Prop) (g : Nat) (d : Int) (w0 : World) (K : TestC s S g d w0) (p : Nat) (w : World) (hp : p ≤ s.length) (hb : (lex s p).kind ≠ .bad) (M : Mem S w0 [rp g s p d] w) (h0 : (lex s p).kind = .word) (hi : textOf s (lex s p) ≠ [105, 100]) (v0 : Int) (hv0 : placeOf fieldNums (textOf s (lex s p)) = v0) (hpos : 0 ≤ v0) (hf : isField s p) (h1 : (lex s (lex s p).next).kind = .mark) (ho : textOf s (lex s (lex s p).next) ≠ [40]) (hc : textOf s (lex s (lex s p).next) ≠ [41]) (hk : isAsk s (lex s p).next) (hask : askNames.getD (askOf s (lex s p).next) [] = textOf s (lex s (lex s p).next)) (v : Int) (h2 : (lex s (lex s (lex s p).next).next).kind = .digits) (hnum : Filt.numOf (textOf s (lex s (lex s (lex s p).next).next)) = some v) (hfd : fieldNames.getD (fieldOf s p) [] = textOf s (lex s p)) (hv : testVal s (fieldOf s p) (askOf s (lex s p).next) (lex s (lex s p).next).next = some (.num (fieldOf s p) (askOf s (lex s p).next) v)) :
    Calls Tryz.prog 61 #[.pointer (some ⟨g, 0, none⟩)] w fun e w' => RdPost S s g d w0 ((lang s).test true p) e w' := by
  have HF := Lib.hid K.fl
  have HX := Lib.hid K.nx
  have HPI : Hid (∀ w, Mem S w0 [rp g s (lex s (lex s p).next).next d] w → Calls Tryz.prog 34 #[str (textOf s (lex s (lex s (lex s p).next).next)), .int .i64 10, .int .i64 64] w fun e w' => e = .returned (.tuple #[.int .i64 v, .nilIface]) ∧ Ext w w') := Lib.hid (fun w M => parse_digits _ v (by rw [take_lex, List.length_take, List.length_drop]; omega) hnum w (K.nv _ w M))
  have HPN : Hid (∀ w, Mem S w0 [rp g s p d] w → Calls Tryz.prog 72 #[str namesText, str (textOf s (lex s p))] w fun e w' => e = .returned (fi v0) ∧ Ext w w') := Lib.hid (fun w M => by rw [← hv0]; exact place_names _ w (K.nv p w M))
  obtain ⟨a0, a0'⟩ := kindN_eq (i := 1) h0 rfl
  have b0 : (textOf s (lex s p) == [105, 100]) = false := by simpa using hi
  have b0' : (textOf s (lex s p) != [105, 100]) = true := by simpa using hi
  have c0 : decide (v0 < 0) = false := by simpa using hpos
  clear hi hv0 h0
  obtain ⟨a1, a1'⟩ := kindN_eq (i := 4) h1 rfl
  have d0 : (textOf s (lex s (lex s p).next) == [40]) = false := by simpa using ho
  have d0' : (textOf s (lex s (lex s p).next) != [40]) = true := by simpa using ho
  have d1 : (textOf s (lex s (lex s p).next) == [41]) = false := by simpa using hc
  have d1' : (textOf s (lex s (lex s p).next) != [41]) = true := by simpa using hc
  clear h1 ho hc
  obtain ⟨a2, a2'⟩ := kindN_eq (i := 2) h2 rfl
  clear h2 hnum
  go_enter Tryz.func61, Tryz.ntmps61
  (try dsimp only); (repeat (first | (first | (go_at_call 72; (first | (with_reducible refine (HPN.out _ M).mono ?_) | (with_reducible refine (HPS.out _ M).mono ?_)); rintro _ w1 ⟨rfl, hX⟩; replace M := M.ext hX; clear hX; dsimp only) | (go_at_call 34; (with_reducible refine (HPI.out _ M).mono ?_); rintro _ w1 ⟨rfl, hX⟩; replace M := M.ext hX; clear hX; dsimp only) | (go_at_call 16; (first | ((with_reducible refine (HX.out _ _ hq2 hb2 M).mono ?_); rintro _ w2 hx; rcases hx with ⟨ha3, hq3, hb3, rfl, M1⟩ | ⟨ha, rfl, cs, M1⟩; rotate_left; (focus (exact ⟨rfl, by rw [test_bad3 hf ha1 hk ha2 hv ha]; exact ⟨rfl, cs, M1⟩⟩))) | ((with_reducible refine (HX.out _ _ hq1 hb1 M).mono ?_); rintro _ w2 hx; rcases hx with ⟨ha2, hq2, hb2, rfl, M1⟩ | ⟨ha, rfl, cs, M1⟩; rotate_left; (focus (exact ⟨rfl, by rw [test_bad2 hf ha1 hk ha]; exact ⟨rfl, cs, M1⟩⟩))) | ((with_reducible refine (HX.out _ _ hp hb M).mono ?_); rintro _ w2 hx; rcases hx with ⟨ha1, hq1, hb1, rfl, M1⟩ | ⟨ha, rfl, cs, M1⟩; rotate_left; (focus (exact ⟨rfl, by rw [test_bad1 hf ha]; exact ⟨rfl, cs, M1⟩⟩)))); replace M := M1; clear M1; dsimp only) | ((with_reducible refine wl_g ?_); first | go_big_want | go_skip | ((with_reducible refine wl_off (by kernel_rfl) ?_); (first | ((with_reducible refine fastK Tryz.prog rfl ?_); go_big_move) | (with_reducible refine fastN rfl ?_) | skip))) | ((with_reducible refine on_load ?_); (first | refine xl1 M ?_ | refine xlN M ?_); go_big_move)) | go_values | go_skip | go_guarded | go_step | go_upon))
  exact ret_m1 rfl (Out.tmp rfl) rfl (by rw [test_ok hf ha1 hk ha2 hv ha3]; exact ⟨by show _ = Ending.returned (ndV (.num (fieldOf s p) (askOf s (lex s p).next) v)); unfold ndV; rw [hask, hfd]; rfl, hq3, hb3, M⟩)
set_option maxRecDepth 100000 in
set_option maxHeartbeats 800000 in
theorem test_num_none (s : List UInt8) (hs : s.length ≤ 1048576) (S : Nat → Prop) (g : Nat) (d : Int) (w0 : World) (K : TestC s S g d w0) (p : Nat) (w : World) (hp : p ≤ s.length) (hb : (lex s p).kind ≠ .bad) (M : Mem S w0 [rp g s p d] w) (h0 : (lex s p).kind = .word) (hi : textOf s (lex s p) ≠ [105, 100]) (v0 : Int) (hv0 : placeOf fieldNums (textOf s (lex s p)) = v0) (hpos : 0 ≤ v0) (hf : isField s p) (h1 : (lex s (lex s p).next).kind = .mark) (ho : textOf s (lex s (lex s p).next) ≠ [40]) (hc : textOf s (lex s (lex s p).next) ≠ [41]) (hk : isAsk s (lex s p).next) (hask : askNames.getD (askOf s (lex s p).next) [] = textOf s (lex s (lex s p).next)) (hb2 : (lex s (lex s (lex s p).next).next).kind ≠ .bad) (h2 : (lex s (lex s (lex s p).next).next).kind ≠ .digits) (hst : textOf s (lex s p) ≠ [115, 116, 97, 116, 117, 115]) (hv : testVal s (fieldOf s p) (askOf s (lex s p).next) (lex s (lex s p).next).next = none) :
    Calls Tryz.prog 61 #[.pointer (some ⟨g, 0, none⟩)] w fun e w' => RdPost S s g d w0 ((lang s).test true p) e w' := by
  have HF := Lib.hid K.fl
  have HX := Lib.hid K.nx
  have b1 : (textOf s (lex s p) == [115, 116, 97, 116, 117, 115]) = false := by simpa using hst
  have b1' : (textOf s (lex s p) != [115, 116, 97, 116, 117, 115]) = true := by simpa using hst
  have HPN : Hid (∀ w, Mem S w0 [rp g s p d] w → Calls Tryz.prog 72 #[str namesText, str (textOf s (lex s p))] w fun e w' => e = .returned (fi v0) ∧ Ext w w') := Lib.hid (fun w M => by rw [← hv0]; exact place_names _ w (K.nv p w M))
  obtain ⟨a0, a0'⟩ := kindN_eq (i := 1) h0 rfl
  have b0 : (textOf s (lex s p) == [105, 100]) = false := by simpa using hi
  have b0' : (textOf s (lex s p) != [105, 100]) = true := by simpa using hi
  have c0 : decide (v0 < 0) = false := by simpa using hpos
  clear hi hv0 h0
  obtain ⟨a1, a1'⟩ := kindN_eq (i := 4) h1 rfl
  have d0 : (textOf s (lex s (lex s p).next) == [40]) = false := by simpa using ho
  have d0' : (textOf s (lex s (lex s p).next) != [40]) = true := by simpa using ho
  have d1 : (textOf s (lex s (lex s p).next) == [41]) = false := by simpa using hc
  have d1' : (textOf s (lex s (lex s p).next) != [41]) = true := by simpa using hc
  clear h1 ho hc
  obtain ⟨a2, a2'⟩ := kindN_no (i := 2) h2 hb2 rfl
  clear h2 hst
  go_enter Tryz.func61, Tryz.ntmps61
  (try dsimp only); (repeat (first | (first | (go_at_call 72; (first | (with_reducible refine (HPN.out _ M).mono ?_) | (with_reducible refine (HPS.out _ M).mono ?_)); rintro _ w1 ⟨rfl, hX⟩; replace M := M.ext hX; clear hX; dsimp only) | (go_at_call 16; (first | ((with_reducible refine (HX.out _ _ hq2 hb2 M).mono ?_); rintro _ w2 hx; rcases hx with ⟨ha3, hq3, hb3, rfl, M1⟩ | ⟨ha, rfl, cs, M1⟩; rotate_left; (focus (exact ⟨rfl, by rw [test_bad3 hf ha1 hk ha2 hv ha]; exact ⟨rfl, cs, M1⟩⟩))) | ((with_reducible refine (HX.out _ _ hq1 hb1 M).mono ?_); rintro _ w2 hx; rcases hx with ⟨ha2, hq2, hb2, rfl, M1⟩ | ⟨ha, rfl, cs, M1⟩; rotate_left; (focus (exact ⟨rfl, by rw [test_bad2 hf ha1 hk ha]; exact ⟨rfl, cs, M1⟩⟩))) | ((with_reducible refine (HX.out _ _ hp hb M).mono ?_); rintro _ w2 hx; rcases hx with ⟨ha1, hq1, hb1, rfl, M1⟩ | ⟨ha, rfl, cs, M1⟩; rotate_left; (focus (exact ⟨rfl, by rw [test_bad1 hf ha]; exact ⟨rfl, cs, M1⟩⟩)))); replace M := M1; clear M1; dsimp only) | (go_at_call 18; (with_reducible refine (HF.out _ _ M).mono ?_); rintro _ w1 ⟨rfl, rfl⟩) | ((with_reducible refine wl_g ?_); first | go_big_want | go_skip | ((with_reducible refine wl_off (by kernel_rfl) ?_); (first | ((with_reducible refine fastK Tryz.prog rfl ?_); go_big_move) | (with_reducible refine fastN rfl ?_) | skip))) | ((with_reducible refine on_load ?_); (first | refine xl1 M ?_ | refine xlN M ?_); go_big_move)) | go_values | go_skip | go_guarded | go_step | go_upon))
  exact ⟨rfl, by rw [test_none hf ha1 hk ha2 hv]; exact ⟨rfl, _, M⟩⟩
set_option maxRecDepth 100000 in
set_option maxHeartbeats 800000 in
theorem test_status_kind (s : List UInt8) (hs : s.length ≤ 1048576) (S : Nat → Prop) (g : Nat) (d : Int) (w0 : World) (K : TestC s S g d w0) (p : Nat) (w : World) (hp : p ≤ s.length) (hb : (lex s p).kind ≠ .bad) (M : Mem S w0 [rp g s p d] w) (h0 : (lex s p).kind = .word) (hst : textOf s (lex s p) = [115, 116, 97, 116, 117, 115]) (v0 : Int) (hv0 : placeOf fieldNums (textOf s (lex s p)) = v0) (hpos : 0 ≤ v0) (hf : isField s p) (h1 : (lex s (lex s p).next).kind = .mark) (ho : textOf s (lex s (lex s p).next) ≠ [40]) (hc : textOf s (lex s (lex s p).next) ≠ [41]) (hk : isAsk s (lex s p).next) (hask : askNames.getD (askOf s (lex s p).next) [] = textOf s (lex s (lex s p).next)) (hb2 : (lex s (lex s (lex s p).next).next).kind ≠ .bad) (h2 : (lex s (lex s (lex s p).next).next).kind ≠ .digits) (h3 : (lex s (lex s (lex s p).next).next).kind ≠ .word) (hv : testVal s (fieldOf s p) (askOf s (lex s p).next) (lex s (lex s p).next).next = none) :
    Calls Tryz.prog 61 #[.pointer (some ⟨g, 0, none⟩)] w fun e w' => RdPost S s g d w0 ((lang s).test true p) e w' := by
  have HF := Lib.hid K.fl
  have HX := Lib.hid K.nx
  have HPN : Hid (∀ w, Mem S w0 [rp g s p d] w → Calls Tryz.prog 72 #[str namesText, str (textOf s (lex s p))] w fun e w' => e = .returned (fi v0) ∧ Ext w w') := Lib.hid (fun w M => by rw [← hv0]; exact place_names _ w (K.nv p w M))
  obtain ⟨a0, a0'⟩ := kindN_eq (i := 1) h0 rfl
  have b0 : (textOf s (lex s p) == [105, 100]) = false := by rw [hst]; rfl
  have b0' : (textOf s (lex s p) != [105, 100]) = true := by rw [hst]; rfl
  have b1 : (textOf s (lex s p) == [115, 116, 97, 116, 117, 115]) = true := by rw [hst]; rfl
  have b1' : (textOf s (lex s p) != [115, 116, 97, 116, 117, 115]) = false := by rw [hst]; rfl
  have c0 : decide (v0 < 0) = false := by simpa using hpos
  clear hst hv0 h0
  obtain ⟨a1, a1'⟩ := kindN_eq (i := 4) h1 rfl
  have d0 : (textOf s (lex s (lex s p).next) == [40]) = false := by simpa using ho
  have d0' : (textOf s (lex s (lex s p).next) != [40]) = true := by simpa using ho
  have d1 : (textOf s (lex s (lex s p).next) == [41]) = false := by simpa using hc
  have d1' : (textOf s (lex s (lex s p).next) != [41]) = true := by simpa using hc
  clear h1 ho hc
  obtain ⟨a2, a2'⟩ := kindN_no (i := 2) h2 hb2 rfl
  obtain ⟨a3, a3'⟩ := kindN_no (i := 1) h3 hb2 rfl
  clear h2 h3
  go_enter Tryz.func61, Tryz.ntmps61
  (try dsimp only); (repeat (first | (first | (go_at_call 72; (first | (with_reducible refine (HPN.out _ M).mono ?_) | (with_reducible refine (HPS.out _ M).mono ?_)); rintro _ w1 ⟨rfl, hX⟩; replace M := M.ext hX; clear hX; dsimp only) | (go_at_call 16; (first | ((with_reducible refine (HX.out _ _ hq2 hb2 M).mono ?_); rintro _ w2 hx; rcases hx with ⟨ha3, hq3, hb3, rfl, M1⟩ | ⟨ha, rfl, cs, M1⟩; rotate_left; (focus (exact ⟨rfl, by rw [test_bad3 hf ha1 hk ha2 hv ha]; exact ⟨rfl, cs, M1⟩⟩))) | ((with_reducible refine (HX.out _ _ hq1 hb1 M).mono ?_); rintro _ w2 hx; rcases hx with ⟨ha2, hq2, hb2, rfl, M1⟩ | ⟨ha, rfl, cs, M1⟩; rotate_left; (focus (exact ⟨rfl, by rw [test_bad2 hf ha1 hk ha]; exact ⟨rfl, cs, M1⟩⟩))) | ((with_reducible refine (HX.out _ _ hp hb M).mono ?_); rintro _ w2 hx; rcases hx with ⟨ha1, hq1, hb1, rfl, M1⟩ | ⟨ha, rfl, cs, M1⟩; rotate_left; (focus (exact ⟨rfl, by rw [test_bad1 hf ha]; exact ⟨rfl, cs, M1⟩⟩)))); replace M := M1; clear M1; dsimp only) | (go_at_call 18; (with_reducible refine (HF.out _ _ M).mono ?_); rintro _ w1 ⟨rfl, rfl⟩) | ((with_reducible refine wl_g ?_); first | go_big_want | go_skip | ((with_reducible refine wl_off (by kernel_rfl) ?_); (first | ((with_reducible refine fastK Tryz.prog rfl ?_); go_big_move) | (with_reducible refine fastN rfl ?_) | skip))) | ((with_reducible refine on_load ?_); (first | refine xl1 M ?_ | refine xlN M ?_); go_big_move)) | go_values | go_skip | go_guarded | go_step | go_upon))
  exact ⟨rfl, by rw [test_none hf ha1 hk ha2 hv]; exact ⟨rfl, _, M⟩⟩
set_option maxRecDepth 100000 in
set_option maxHeartbeats 800000 in
theorem test_status_no (s : List UInt8) (hs : s.length ≤ 1048576) (S : Nat → Prop) (g : Nat) (d : Int) (w0 : World) (K : TestC s S g d w0) (p : Nat) (w : World) (hp : p ≤ s.length) (hb : (lex s p).kind ≠ .bad) (M : Mem S w0 [rp g s p d] w) (h0 : (lex s p).kind = .word) (hst : textOf s (lex s p) = [115, 116, 97, 116, 117, 115]) (v0 : Int) (hv0 : placeOf fieldNums (textOf s (lex s p)) = v0) (hpos : 0 ≤ v0) (hf : isField s p) (h1 : (lex s (lex s p).next).kind = .mark) (ho : textOf s (lex s (lex s p).next) ≠ [40]) (hc : textOf s (lex s (lex s p).next) ≠ [41]) (hk : isAsk s (lex s p).next) (hask : askNames.getD (askOf s (lex s p).next) [] = textOf s (lex s (lex s p).next)) (v2 : Int) (hv2 : placeOf statusNames (textOf s (lex s (lex s (lex s p).next).next)) = v2) (hneg : v2 < 0) (h2 : (lex s (lex s (lex s p).next).next).kind = .word) (hv : testVal s (fieldOf s p) (askOf s (lex s p).next) (lex s (lex s p).next).next = none) :
    Calls Tryz.prog 61 #[.pointer (some ⟨g, 0, none⟩)] w fun e w' => RdPost S s g d w0 ((lang s).test true p) e w' := by
  have HF := Lib.hid K.fl
  have HX := Lib.hid K.nx
  have HPS : Hid (∀ w, Mem S w0 [rp g s (lex s (lex s p).next).next d] w → Calls Tryz.prog 72 #[str statusText, str (textOf s (lex s (lex s (lex s p).next).next))] w fun e w' => e = .returned (fi v2) ∧ Ext w w') := Lib.hid (fun w M => by rw [← hv2]; exact place_status _ w (K.nv _ w M))
  have HPN : Hid (∀ w, Mem S w0 [rp g s p d] w → Calls Tryz.prog 72 #[str namesText, str (textOf s (lex s p))] w fun e w' => e = .returned (fi v0) ∧ Ext w w') := Lib.hid (fun w M => by rw [← hv0]; exact place_names _ w (K.nv p w M))
  obtain ⟨a0, a0'⟩ := kindN_eq (i := 1) h0 rfl
  have b0 : (textOf s (lex s p) == [105, 100]) = false := by rw [hst]; rfl
  have b0' : (textOf s (lex s p) != [105, 100]) = true := by rw [hst]; rfl
  have b1 : (textOf s (lex s p) == [115, 116, 97, 116, 117, 115]) = true := by rw [hst]; rfl
  have b1' : (textOf s (lex s p) != [115, 116, 97, 116, 117, 115]) = false := by rw [hst]; rfl
  have c0 : decide (v0 < 0) = false := by simpa using hpos
  clear hst hv0 h0
  obtain ⟨a1, a1'⟩ := kindN_eq (i := 4) h1 rfl
  have d0 : (textOf s (lex s (lex s p).next) == [40]) = false := by simpa using ho
  have d0' : (textOf s (lex s (lex s p).next) != [40]) = true := by simpa using ho
  have d1 : (textOf s (lex s (lex s p).next) == [41]) = false := by simpa using hc
  have d1' : (textOf s (lex s (lex s p).next) != [41]) = true := by simpa using hc
  clear h1 ho hc
  obtain ⟨a2, a2'⟩ := kindN_no (k := (lex s (lex s (lex s p).next).next).kind) (k' := .digits) (i := 2) (by rw [h2]; simp) (by rw [h2]; simp) rfl
  obtain ⟨a3, a3'⟩ := kindN_eq (i := 1) h2 rfl
  have c2 : decide (0 ≤ v2) = false := by simpa using hneg
  have c2' : decide (v2 ≥ 0) = false := by simpa using hneg
  clear h2 hv2
  go_enter Tryz.func61, Tryz.ntmps61
  (try dsimp only); (repeat (first | (first | (go_at_call 72; (first | (with_reducible refine (HPN.out _ M).mono ?_) | (with_reducible refine (HPS.out _ M).mono ?_)); rintro _ w1 ⟨rfl, hX⟩; replace M := M.ext hX; clear hX; dsimp only) | (go_at_call 16; (first | ((with_reducible refine (HX.out _ _ hq2 hb2 M).mono ?_); rintro _ w2 hx; rcases hx with ⟨ha3, hq3, hb3, rfl, M1⟩ | ⟨ha, rfl, cs, M1⟩; rotate_left; (focus (exact ⟨rfl, by rw [test_bad3 hf ha1 hk ha2 hv ha]; exact ⟨rfl, cs, M1⟩⟩))) | ((with_reducible refine (HX.out _ _ hq1 hb1 M).mono ?_); rintro _ w2 hx; rcases hx with ⟨ha2, hq2, hb2, rfl, M1⟩ | ⟨ha, rfl, cs, M1⟩; rotate_left; (focus (exact ⟨rfl, by rw [test_bad2 hf ha1 hk ha]; exact ⟨rfl, cs, M1⟩⟩))) | ((with_reducible refine (HX.out _ _ hp hb M).mono ?_); rintro _ w2 hx; rcases hx with ⟨ha1, hq1, hb1, rfl, M1⟩ | ⟨ha, rfl, cs, M1⟩; rotate_left; (focus (exact ⟨rfl, by rw [test_bad1 hf ha]; exact ⟨rfl, cs, M1⟩⟩)))); replace M := M1; clear M1; dsimp only) | (go_at_call 18; (with_reducible refine (HF.out _ _ M).mono ?_); rintro _ w1 ⟨rfl, rfl⟩) | ((with_reducible refine wl_g ?_); first | go_big_want | go_skip | ((with_reducible refine wl_off (by kernel_rfl) ?_); (first | ((with_reducible refine fastK Tryz.prog rfl ?_); go_big_move) | (with_reducible refine fastN rfl ?_) | skip))) | ((with_reducible refine on_load ?_); (first | refine xl1 M ?_ | refine xlN M ?_); go_big_move)) | go_values | go_skip | go_guarded | go_step | go_upon))
  exact ⟨rfl, by rw [test_none hf ha1 hk ha2 hv]; exact ⟨rfl, _, M⟩⟩
set_option maxRecDepth 100000 in
set_option maxHeartbeats 800000 in
theorem test_status_ok (s : List UInt8) (hs : s.length ≤ 1048576) (S : Nat → Prop) (g : Nat) (d : Int) (w0 : World) (K : TestC s S g d w0) (p : Nat) (w : World) (hp : p ≤ s.length) (hb : (lex s p).kind ≠ .bad) (M : Mem S w0 [rp g s p d] w) (h0 : (lex s p).kind = .word) (hst : textOf s (lex s p) = [115, 116, 97, 116, 117, 115]) (v0 : Int) (hv0 : placeOf fieldNums (textOf s (lex s p)) = v0) (hpos : 0 ≤ v0) (hf : isField s p) (h1 : (lex s (lex s p).next).kind = .mark) (ho : textOf s (lex s (lex s p).next) ≠ [40]) (hc : textOf s (lex s (lex s p).next) ≠ [41]) (hk : isAsk s (lex s p).next) (hask : askNames.getD (askOf s (lex s p).next) [] = textOf s (lex s (lex s p).next)) (v2 : Int) (hv2 : placeOf statusNames (textOf s (lex s (lex s (lex s p).next).next)) = v2) (hpos2 : 0 ≤ v2) (h7 : v2 ≤ 7) (h2 : (lex s (lex s (lex s p).next).next).kind = .word) (hfd : fieldNames.getD (fieldOf s p) [] = textOf s (lex s p)) (hv : testVal s (fieldOf s p) (askOf s (lex s p).next) (lex s (lex s p).next).next = some (.num (fieldOf s p) (askOf s (lex s p).next) (v2 + 1))) :
    Calls Tryz.prog 61 #[.pointer (some ⟨g, 0, none⟩)] w fun e w' => RdPost S s g d w0 ((lang s).test true p) e w' := by
  have HF := Lib.hid K.fl
  have HX := Lib.hid K.nx
  have HPS : Hid (∀ w, Mem S w0 [rp g s (lex s (lex s p).next).next d] w → Calls Tryz.prog 72 #[str statusText, str (textOf s (lex s (lex s (lex s p).next).next))] w fun e w' => e = .returned (fi v2) ∧ Ext w w') := Lib.hid (fun w M => by rw [← hv2]; exact place_status _ w (K.nv _ w M))
  have HPN : Hid (∀ w, Mem S w0 [rp g s p d] w → Calls Tryz.prog 72 #[str namesText, str (textOf s (lex s p))] w fun e w' => e = .returned (fi v0) ∧ Ext w w') := Lib.hid (fun w M => by rw [← hv0]; exact place_names _ w (K.nv p w M))
  obtain ⟨a0, a0'⟩ := kindN_eq (i := 1) h0 rfl
  have b0 : (textOf s (lex s p) == [105, 100]) = false := by rw [hst]; rfl
  have b0' : (textOf s (lex s p) != [105, 100]) = true := by rw [hst]; rfl
  have b1 : (textOf s (lex s p) == [115, 116, 97, 116, 117, 115]) = true := by rw [hst]; rfl
  have b1' : (textOf s (lex s p) != [115, 116, 97, 116, 117, 115]) = false := by rw [hst]; rfl
  have c0 : decide (v0 < 0) = false := by simpa using hpos
  clear hst hv0 h0
  obtain ⟨a1, a1'⟩ := kindN_eq (i := 4) h1 rfl
  have d0 : (textOf s (lex s (lex s p).next) == [40]) = false := by simpa using ho
  have d0' : (textOf s (lex s (lex s p).next) != [40]) = true := by simpa using ho
  have d1 : (textOf s (lex s (lex s p).next) == [41]) = false := by simpa using hc
  have d1' : (textOf s (lex s (lex s p).next) != [41]) = true := by simpa using hc
  clear h1 ho hc
  obtain ⟨a2, a2'⟩ := kindN_no (k := (lex s (lex s (lex s p).next).next).kind) (k' := .digits) (i := 2) (by rw [h2]; simp) (by rw [h2]; simp) rfl
  obtain ⟨a3, a3'⟩ := kindN_eq (i := 1) h2 rfl
  have c2 : decide (0 ≤ v2) = true := by simpa using hpos2
  have c2' : decide (v2 ≥ 0) = true := by simpa using hpos2
  have hwv : IntKind.i64.wrap (v2 + 1) = v2 + 1 := IntWalk.i64_in _ (by omega)
  clear h2 hv2
  go_enter Tryz.func61, Tryz.ntmps61
  (try dsimp only); (repeat (first | (first | (go_at_call 72; (first | (with_reducible refine (HPN.out _ M).mono ?_) | (with_reducible refine (HPS.out _ M).mono ?_)); rintro _ w1 ⟨rfl, hX⟩; replace M := M.ext hX; clear hX; dsimp only) | (go_at_call 16; (first | ((with_reducible refine (HX.out _ _ hq2 hb2 M).mono ?_); rintro _ w2 hx; rcases hx with ⟨ha3, hq3, hb3, rfl, M1⟩ | ⟨ha, rfl, cs, M1⟩; rotate_left; (focus (exact ⟨rfl, by rw [test_bad3 hf ha1 hk ha2 hv ha]; exact ⟨rfl, cs, M1⟩⟩))) | ((with_reducible refine (HX.out _ _ hq1 hb1 M).mono ?_); rintro _ w2 hx; rcases hx with ⟨ha2, hq2, hb2, rfl, M1⟩ | ⟨ha, rfl, cs, M1⟩; rotate_left; (focus (exact ⟨rfl, by rw [test_bad2 hf ha1 hk ha]; exact ⟨rfl, cs, M1⟩⟩))) | ((with_reducible refine (HX.out _ _ hp hb M).mono ?_); rintro _ w2 hx; rcases hx with ⟨ha1, hq1, hb1, rfl, M1⟩ | ⟨ha, rfl, cs, M1⟩; rotate_left; (focus (exact ⟨rfl, by rw [test_bad1 hf ha]; exact ⟨rfl, cs, M1⟩⟩)))); replace M := M1; clear M1; dsimp only) | ((with_reducible refine wl_g ?_); first | go_big_want | go_skip | ((with_reducible refine wl_off (by kernel_rfl) ?_); (first | ((with_reducible refine fastK Tryz.prog rfl ?_); go_big_move) | (with_reducible refine fastN rfl ?_) | skip))) | ((with_reducible refine on_load ?_); (first | refine xl1 M ?_ | refine xlN M ?_); go_big_move)) | go_values | go_skip | go_guarded | go_step | go_upon))
  exact ret_m1 rfl (Out.tmp rfl) rfl (by rw [test_ok hf ha1 hk ha2 hv ha3]; exact ⟨by show _ = Ending.returned (ndV (.num (fieldOf s p) (askOf s (lex s p).next) (v2 + 1))); unfold ndV; rw [hask, hfd]; rfl, hq3, hb3, M⟩)
end Go.Proofs.YtkblkdnihppmnaaGreatDoor
