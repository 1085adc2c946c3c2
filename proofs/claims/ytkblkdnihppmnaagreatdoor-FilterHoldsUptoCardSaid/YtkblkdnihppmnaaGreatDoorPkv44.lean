/- Parts of this work, one behind the other: FilterHolds0. -/
import Derived.Test.YtkblkdnihppmnaaGreatDoorPkv40
import Derived.Test.YtkblkdnihppmnaaGreatDoorPkv39
import Derived.Test.YtkblkdnihppmnaaGreatDoorPkv41
import Derived.Test.YtkblkdnihppmnaaGreatDoorPkv38
import Derived.Test.YtkblkdnihppmnaaGreatDoorPkv32
/- The law FilterHolds, walked. -/
namespace Go.Proofs.YtkblkdnihppmnaaGreatDoor
set_option linter.unusedSimpArgs false
set_option linter.unusedVariables false
open Go.RowKit Res Filt

theorem text_was {s : List UInt8} {n : Nd} (h : ParseP s (.ok (some n))) : TextIs n (ftxt n) := text_node n (parse_valid h).1 (by have := parse_size h; omega)
set_option maxRecDepth 100000 in
set_option maxHeartbeats 800000 in
theorem filterHolds_walk (s : List UInt8) (hs : s.length ≤ 140737488355328) (a : Abt) (w : World) (hN : Nv w) (hg : Tryz.prog.globals.size ≤ w.heap.size) :
    Calls Tryz.prog 5 #[str s, .agg a.cells.toArray] w fun e w' => e = .returned (.bool true) ∧ Ext w w' := by
  show Calls Tryz.prog 5 #[str s, .agg #[fi a.a0, fi a.a1, fi a.a2, str a.id, fi a.a4, fi a.a5, fi a.a6, fi a.a7, fi a.a8, fi a.a9, fi a.a10, fi a.a11, fi a.a12, fi a.a13, fi a.a14, fi a.a15, fi a.a16]] w _
  have M := Mem.start w
  have HP : Hid (∀ w', Ext w w' → ParseIs s w') := Lib.hid (fun w' hX => parse_any s w' (hN.ext hX) (Nat.le_trans hg hX.size))
  have HRP := Lib.hid (ref_parse s)
  have HNv := Lib.hid hN
  clear hN hg
  go_enter Tryz.func5, Tryz.ntmps5
  (try dsimp only); (repeat (first | (first | (go_at_call 7; (with_reducible refine (HP.out _ M.ext_of).mono ?_); rintro e1 w1 ⟨o, ho, hx⟩; refine Hid.out ?_) | ((with_reducible refine wl_g ?_); first | go_big_want | go_skip | ((with_reducible refine wl_off (by kernel_rfl) ?_); (first | ((with_reducible refine fastK Tryz.prog rfl ?_); go_big_move) | (with_reducible refine fastN rfl ?_) | skip))) | ((with_reducible refine on_load ?_); (first | refine xl1 M ?_ | refine xlN M ?_); go_big_move) | ((with_reducible refine on_box ?_); refine xb M ?_; clear M; intro g w' M; go_big_move)) | go_values | go_skip | go_guarded | go_step | go_upon))
  have HO := Lib.hid ho
  clear ho
  rcases o with (_ | n) | i
  · obtain ⟨g, rfl, hX, hz, hB⟩ := hx
    refine Lib.hid ?_
    replace M := M.ext hX
    dsimp only
    clear hX
    have HT := Lib.hid text_none
    have HH : Hid (∀ (g : Nat) (w : World), Box w g 53 #[.nilIface] → Calls Tryz.prog 9 #[.pointer (some ⟨g, 0, none⟩), .agg #[fi a.a0, fi a.a1, fi a.a2, str a.id, fi a.a4, fi a.a5, fi a.a6, fi a.a7, fi a.a8, fi a.a9, fi a.a10, fi a.a11, fi a.a12, fi a.a13, fi a.a14, fi a.a15, fi a.a16]] w fun e w' => e = .returned (.bool true) ∧ Ext w w') := Lib.hid (fun g w hb => holds_none g a.cells w hb)
    have HRH := Lib.hid (rholds_nil a)
    have HRT := Lib.hid rtext_nil
    (try dsimp only); (repeat (first | (first | (go_at_call 8; (with_reducible refine (HRP.out _).mono ?_); rintro e2 w2 ⟨o2, ho2, hx2⟩; cases parse_same HO.out ho2; obtain ⟨rfl, hX⟩ := hx2; replace M := M.ext hX; replace hB := hB.ext hX; clear hX; dsimp only) | (go_at_call 11; (with_reducible refine (HT.out _ _ hB).mono ?_); rintro _ w3 ⟨rfl, rfl⟩; dsimp only) | (go_at_call 9; (with_reducible refine (HH.out _ _ hB).mono ?_); rintro _ w3 ⟨rfl, hX⟩; replace M := M.ext hX; replace hB := hB.ext hX; clear hX; dsimp only) | (go_at_call 12; (with_reducible refine (HRH.out _).mono ?_); rintro _ w4 ⟨rfl, hX⟩; replace M := M.ext hX; clear hX; dsimp only) | (go_at_call 13; (with_reducible refine (HRT.out _).mono ?_); rintro _ w4 ⟨rfl, hX⟩; replace M := M.ext hX; clear hX; dsimp only) | ((with_reducible refine wl_g ?_); first | go_big_want | go_skip | ((with_reducible refine wl_off (by kernel_rfl) ?_); (first | ((with_reducible refine fastK Tryz.prog rfl ?_); go_big_move) | (with_reducible refine fastN rfl ?_) | skip))) | ((with_reducible refine on_load ?_); (first | refine xl1 M ?_ | refine xlN M ?_); go_big_move) | ((with_reducible refine on_box ?_); refine xb M ?_; clear M; intro g w' M; go_big_move)) | go_values | go_skip | go_guarded | go_step | go_upon))
    exact ret_m1 rfl (Out.tmp rfl) rfl ⟨rfl, M.ext_of⟩
  · obtain ⟨g, rfl, hX, hz, hB⟩ := hx
    refine Lib.hid ?_
    replace M := M.ext hX
    dsimp only
    clear hX
    have HT : Hid (∀ w', Ext w w' → Box w' g 53 #[ndO (some n)] → Calls Tryz.prog 11 #[.pointer (some ⟨g, 0, none⟩)] w' fun e w'' => e = .returned (str (ftxt n)) ∧ Ext w' w'') := Lib.hid (fun w' hX hB => filter_text n _ (text_was HO.out) g w' (HNv.out.ext hX) hB)
    have hv := (parse_valid HO.out).1
    have hz2 := parse_size HO.out
    obtain ⟨b, hb⟩ : ∃ b, holdsOf (numB a) (idtB a) n = b := ⟨_, rfl⟩
    have HH : Hid (∀ w', Ext w w' → Box w' g 53 #[ndO (some n)] → Calls Tryz.prog 9 #[.pointer (some ⟨g, 0, none⟩), .agg #[fi a.a0, fi a.a1, fi a.a2, str a.id, fi a.a4, fi a.a5, fi a.a6, fi a.a7, fi a.a8, fi a.a9, fi a.a10, fi a.a11, fi a.a12, fi a.a13, fi a.a14, fi a.a15, fi a.a16]] w' fun e w'' => e = .returned (.bool b) ∧ Ext w' w'') := Lib.hid (fun w' hX hB => by
      rw [← hb]
      exact filter_holds a (some n) (fun m hm => by cases hm; exact (parse_valid HO.out).1) g w' (HNv.out.ext hX) hB)
    have HRR : Hid (∀ {A : Option Addr} {c : Nat} {w' : World} {l : List Res} {F : Res → List Res}, Mem (· < w.heap.size) w l w' → Pick l (ow 63 fnV 5 A c (flat n)) F →
        Calls Tryz.prog 12 #[.slice A (flat n).length c, .agg #[fi a.a0, fi a.a1, fi a.a2, str a.id, fi a.a4, fi a.a5, fi a.a6, fi a.a7, fi a.a8, fi a.a9, fi a.a10, fi a.a11, fi a.a12, fi a.a13, fi a.a14, fi a.a15, fi a.a16]] w' fun e w'' => e = .returned (.bool b) ∧ Ext w' w'') := Lib.hid (fun M p => by
      rw [← hb]
      exact rholds_row a n hv (by omega) M p)
    have HRX : Hid (∀ {A : Option Addr} {c : Nat} {w' : World} {l : List Res} {F : Res → List Res}, Mem (· < w.heap.size) w l w' → Pick l (ow 63 fnV 5 A c (flat n)) F →
        Calls Tryz.prog 13 #[.slice A (flat n).length c] w' fun e w'' => e = .returned (str (ftxt n)) ∧ Ext w' w'') := Lib.hid (fun M p => rtext_row n hv (by omega) M p)
    clear hb hv hz2
    generalize ftxt n = t at HT HRX
    have g2 : (t == t) = true := by simp
    have g3 : (b == b) = true := by simp
    (try dsimp only); (repeat (first | (first | (go_at_call 8; (with_reducible refine (HRP.out _).mono ?_); rintro e2 w2 ⟨o2, ho2, hx2⟩; cases parse_same HO.out ho2; obtain ⟨A, c, rfl, hX, hO⟩ := hx2; replace M := M.new_own hO (Nat.le_refl _) hX; replace hB := hB.ext hX; clear hX hO; dsimp only) | (go_at_call 11; (with_reducible refine (HT.out _ M.ext_of hB).mono ?_); rintro _ w3 ⟨rfl, hX⟩; replace M := M.ext hX; replace hB := hB.ext hX; clear hX; dsimp only) | (go_at_call 9; (with_reducible refine (HH.out _ M.ext_of hB).mono ?_); rintro _ w3 ⟨rfl, hX⟩; replace M := M.ext hX; replace hB := hB.ext hX; clear hX; dsimp only) | (go_at_call 12; (with_reducible refine (HRR.out M pk).mono ?_); rintro _ w4 ⟨rfl, hX⟩; replace M := M.ext hX; clear hX; dsimp only) | (go_at_call 13; (with_reducible refine (HRX.out M pk).mono ?_); rintro _ w4 ⟨rfl, hX⟩; replace M := M.ext hX; clear hX; dsimp only) | ((with_reducible refine wl_g ?_); first | go_big_want | go_skip | ((with_reducible refine wl_off (by kernel_rfl) ?_); (first | ((with_reducible refine fastK Tryz.prog rfl ?_); go_big_move) | (with_reducible refine fastN rfl ?_) | skip))) | ((with_reducible refine on_load ?_); (first | refine xl1 M ?_ | refine xlN M ?_); go_big_move) | ((with_reducible refine on_box ?_); refine xb M ?_; clear M; intro g w' M; go_big_move)) | go_values | go_skip | go_guarded | go_step | go_upon))
    exact ret_m1 rfl (Out.tmp rfl) rfl ⟨rfl, M.ext_of⟩
  · obtain ⟨rfl, hX⟩ := hx
    refine Lib.hid ?_
    replace M := M.ext hX
    dsimp only
    clear hX
    (try dsimp only); (repeat (first | (first | (go_at_call 8; (with_reducible refine (HRP.out _).mono ?_); rintro e2 w2 ⟨o2, ho2, hx2⟩; cases parse_same HO.out ho2; obtain ⟨rfl, hX⟩ := hx2; replace M := M.ext hX; clear hX; dsimp only) | ((with_reducible refine wl_g ?_); first | go_big_want | go_skip | ((with_reducible refine wl_off (by kernel_rfl) ?_); (first | ((with_reducible refine fastK Tryz.prog rfl ?_); go_big_move) | (with_reducible refine fastN rfl ?_) | skip))) | ((with_reducible refine on_load ?_); (first | refine xl1 M ?_ | refine xlN M ?_); go_big_move) | ((with_reducible refine on_box ?_); refine xb M ?_; clear M; intro g w' M; go_big_move)) | go_values | go_skip | go_guarded | go_step | go_upon))
    exact ret_m1 rfl (Out.tmp rfl) rfl ⟨rfl, M.ext_of⟩
end Go.Proofs.YtkblkdnihppmnaaGreatDoor
