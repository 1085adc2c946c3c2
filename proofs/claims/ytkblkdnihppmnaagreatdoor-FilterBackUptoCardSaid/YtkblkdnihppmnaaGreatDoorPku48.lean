/- Parts of this work, one behind the other: FilterBack0. -/
import Derived.Test.YtkblkdnihppmnaaGreatDoorPku46
import Derived.Test.YtkblkdnihppmnaaGreatDoorPku41
import Derived.Test.YtkblkdnihppmnaaGreatDoorPku38
/- The law FilterBack, walked. -/
namespace Go.Proofs.YtkblkdnihppmnaaGreatDoor
set_option linter.unusedSimpArgs false
set_option linter.unusedVariables false
open Go.RowKit Res Filt

theorem parse_nil {o : Filt.Out} (h : ParseP [] o) : o = .ok none := by
  have he : (lex [] 0).kind = .ended := rfl
  cases h with
  | long h => simp at h
  | bad _ h => rw [he] at h; cases h
  | none _ _ => rfl
  | fail _ _ h => exact absurd he h
  | more _ _ h => exact absurd he h
  | ok _ _ h => exact absurd he h
theorem text_of {s : List UInt8} {n : Nd} (h : ParseP s (.ok (some n))) : TextIs n (ftxt n) := text_node n (parse_valid h).1 (by have := parse_size h; omega)
/-- a filter's text, read again -/
theorem read_back {s : List UInt8} {n : Nd} (h : ParseP s (.ok (some n))) (hl : (ftxt n).length ≤ 512) {o : Filt.Out} (ho : ParseP (ftxt n) o) : ∃ m, o = .ok (some m) ∧ ParseP (ftxt n) (.ok (some m)) ∧ ftxt m = ftxt n ∧ ∀ num idt, holdsOf num idt m = holdsOf num idt n := by
  have hb := text_back (parse_valid h).1 (parse_valid h).2 hl
  have e := parse_same ho hb
  refine ⟨nrm .start n, e, by rw [← e]; exact ho, ?_, fun num idt => ?_⟩
  · exact txt_nrm (tn := Filt.numT) (ti := Filt.idtT) n .start
  · exact holds_nrm (hn := num) (hi := idt) n .start
set_option maxRecDepth 100000 in
set_option maxHeartbeats 800000 in
theorem filterBack_walk (s : List UInt8) (hs : s.length ≤ 140737488355328) (a : Abt) (w : World) (hN : Nv w) (hg : Tryz.prog.globals.size ≤ w.heap.size) :
    Calls Tryz.prog 6 #[str s, .agg a.cells.toArray] w fun e w' => e = .returned (.bool true) ∧ Ext w w' := by
  show Calls Tryz.prog 6 #[str s, .agg #[fi a.a0, fi a.a1, fi a.a2, str a.id, fi a.a4, fi a.a5, fi a.a6, fi a.a7, fi a.a8, fi a.a9, fi a.a10, fi a.a11, fi a.a12, fi a.a13, fi a.a14, fi a.a15, fi a.a16]] w _
  have M := Mem.start w
  have q0 : ∀ w : World, (binOp BinOp.eql 22 (.pointer none) (.pointer none)).run Tryz.prog w = .ok (.bool true) w := fun _ => by kernel_rfl
  have q1 : ∀ (g : Nat) (w : World), (binOp BinOp.eql 22 (.pointer (some ⟨g, 0, none⟩)) (.pointer none)).run Tryz.prog w = .ok (.bool false) w := fun _ _ => by kernel_rfl
  have HP : Hid (∀ w', Ext w w' → ParseIs s w') := Lib.hid (fun w' hX => parse_any s w' (hN.ext hX) (Nat.le_trans hg hX.size))
  have HRP := Lib.hid (ref_parse s)
  have HNv := Lib.hid hN
  have HG := Lib.hid hg
  clear hN hg
  go_enter Tryz.func6, Tryz.ntmps6
  (try dsimp only); (repeat (first | (first | (go_at_call 7; (with_reducible refine (HP.out _ M.ext_of).mono ?_); rintro e1 w1 ⟨o, ho, hx⟩; refine Hid.out ?_) | ((with_reducible refine wl_g ?_); first | go_big_want | go_skip | ((with_reducible refine wl_off (by kernel_rfl) ?_); (first | ((with_reducible refine fastK Tryz.prog rfl ?_); go_big_move) | (with_reducible refine fastN rfl ?_) | skip))) | ((with_reducible refine on_load ?_); (first | refine xl1 M ?_ | refine xlN M ?_); go_big_move) | ((with_reducible refine on_store ?_); (first | refine xs1 M ?_ | refine xsN M ?_); clear M; intro w' M; (try simp only [List.set_cons_zero, List.set_cons_succ] at M)) | ((with_reducible refine on_box ?_); refine xb M ?_; clear M; intro g w' M; go_big_move) | ((with_reducible refine on_alloc ?_); refine xa M ?_; clear M; intro g w' M; go_big_move)) | go_values | go_skip | go_guarded | go_step | go_upon))
  have HO := Lib.hid ho
  clear ho
  rcases o with (_ | n) | i
  · obtain ⟨g, rfl, hX, hz, hB⟩ := hx
    refine Lib.hid ?_
    replace M := M.ext hX
    dsimp only
    clear hX
    have HT := Lib.hid text_none
    have HH : Hid (∀ (g : Nat) (w : World), Box w g 53 #[.nilIface] → Calls Tryz.prog 9 #[.pointer (some ⟨g, 0, none⟩), .agg #[fi a.a0, fi a.a1, fi a.a2, str a.id, fi a.a4, fi a.a5, fi a.a6, fi a.a7, fi a.a8, fi a.a9, fi a.a10, fi a.a11, fi a.a12, fi a.a13, fi a.a14, fi a.a15, fi a.a16]] w fun e w' => e = .returned (.bool true) ∧ Ext w w') := Lib.hid (fun g w hb => holds_none g a.cells w hb)
    have HP2 : Hid (∀ w', Ext w w' → ParseIs [] w') := Lib.hid (fun w' hX => parse_any [] w' (HNv.out.ext hX) (Nat.le_trans HG.out hX.size))
    (try dsimp only); (repeat (first | (first | (go_at_call 8; (with_reducible refine (HRP.out _).mono ?_); rintro e2 w2 ⟨o2, ho2, hx2⟩; cases parse_same HO.out ho2; obtain ⟨rfl, hX⟩ := hx2; replace M := M.ext hX; replace hB := hB.ext hX; clear hX; dsimp only) | (go_at_call 11; (first | (with_reducible refine (HT.out _ _ hB2).mono ?_) | (with_reducible refine (HT.out _ _ hB).mono ?_)); rintro _ w3 ⟨rfl, rfl⟩; dsimp only) | (go_at_call 7; (with_reducible refine (HP2.out _ M.ext_of).mono ?_); rintro e1 w1 ⟨o, ho, hx⟩; cases parse_nil ho; obtain ⟨g2, rfl, hX, hz2, hB2⟩ := hx; replace M := M.ext hX; replace hB := hB.ext hX; clear hX; dsimp only [ndO] at hB2; dsimp only) | (go_at_call 9; (first | (with_reducible refine (HH.out _ _ hB).mono ?_) | (with_reducible refine (HH.out _ _ hB2).mono ?_)); rintro _ w3 ⟨rfl, hX⟩; replace M := M.ext hX; replace hB := hB.ext hX; replace hB2 := hB2.ext hX; clear hX; dsimp only) | ((with_reducible refine wl_g ?_); first | go_big_want | go_skip | ((with_reducible refine wl_off (by kernel_rfl) ?_); (first | ((with_reducible refine fastK Tryz.prog rfl ?_); go_big_move) | (with_reducible refine fastN rfl ?_) | skip))) | ((with_reducible refine on_load ?_); (first | refine xl1 M ?_ | refine xlN M ?_); go_big_move) | ((with_reducible refine on_store ?_); (first | refine xs1 M ?_ | refine xsN M ?_); clear M; intro w' M; (try simp only [List.set_cons_zero, List.set_cons_succ] at M)) | ((with_reducible refine on_box ?_); refine xb M ?_; clear M; intro g w' M; go_big_move) | ((with_reducible refine on_alloc ?_); refine xa M ?_; clear M; intro g w' M; go_big_move)) | go_values | go_skip | go_guarded | go_step | go_upon))
    exact ret_m1 rfl (Out.tmp rfl) rfl ⟨rfl, M.ext_of⟩
  · obtain ⟨g, rfl, hX, hz, hB⟩ := hx
    refine Lib.hid ?_
    replace M := M.ext hX
    dsimp only
    clear hX
    have HT : Hid (∀ w', Ext w w' → Box w' g 53 #[ndO (some n)] → Calls Tryz.prog 11 #[.pointer (some ⟨g, 0, none⟩)] w' fun e w'' => e = .returned (str (ftxt n)) ∧ Ext w' w'') := Lib.hid (fun w' hX hB => filter_text n _ (text_of HO.out) g w' (HNv.out.ext hX) hB)
    obtain ⟨b, hb⟩ : ∃ b, holdsOf (numB a) (idtB a) n = b := ⟨_, rfl⟩
    have HH : Hid (∀ w', Ext w w' → Box w' g 53 #[ndO (some n)] → Calls Tryz.prog 9 #[.pointer (some ⟨g, 0, none⟩), .agg #[fi a.a0, fi a.a1, fi a.a2, str a.id, fi a.a4, fi a.a5, fi a.a6, fi a.a7, fi a.a8, fi a.a9, fi a.a10, fi a.a11, fi a.a12, fi a.a13, fi a.a14, fi a.a15, fi a.a16]] w' fun e w'' => e = .returned (.bool b) ∧ Ext w' w'') := Lib.hid (fun w' hX hB => by
      rw [← hb]
      exact filter_holds a (some n) (fun m hm => by cases hm; exact (parse_valid HO.out).1) g w' (HNv.out.ext hX) hB)
    have HP2 : Hid (∀ w', Ext w w' → ParseIs (ftxt n) w') := Lib.hid (fun w' hX => parse_any (ftxt n) w' (HNv.out.ext hX) (Nat.le_trans HG.out hX.size))
    have HBK : Hid ((ftxt n).length ≤ 512 → ∀ o, ParseP (ftxt n) o → ∃ m, o = .ok (some m) ∧ ParseP (ftxt n) (.ok (some m)) ∧ ftxt m = ftxt n ∧ holdsOf (numB a) (idtB a) m = b) := Lib.hid (fun hl o ho => by
      obtain ⟨m, h1, h2, h3, h4⟩ := read_back HO.out hl ho
      exact ⟨m, h1, h2, h3, by rw [h4, hb]⟩)
    clear hb
    obtain ⟨t, ht⟩ : ∃ t, ftxt n = t := ⟨_, rfl⟩
    rw [ht] at HT HP2 HBK
    clear ht
    by_cases hl : t.length ≤ 512
    · have g1 : decide (512 < (t.length : Int)) = false := by simp; omega
      have HL := Lib.hid hl
      clear hl
      (try dsimp only); (repeat (first | (first | (go_at_call 8; (with_reducible refine (HRP.out _).mono ?_); rintro e2 w2 ⟨o2, ho2, hx2⟩; cases parse_same HO.out ho2; obtain ⟨A, c, rfl, hX, hO⟩ := hx2; replace M := M.ext hX; replace hB := hB.ext hX; clear hX hO; dsimp only) | (go_at_call 11; (with_reducible refine (HT.out _ M.ext_of hB).mono ?_); rintro _ w3 ⟨rfl, hX⟩; replace M := M.ext hX; replace hB := hB.ext hX; clear hX; dsimp only) | (go_at_call 7; (with_reducible refine (HP2.out _ M.ext_of).mono ?_); rintro e1 w1 ⟨o, ho, hx⟩; refine Hid.out ?_) | ((with_reducible refine wl_g ?_); first | go_big_want | go_skip | ((with_reducible refine wl_off (by kernel_rfl) ?_); (first | ((with_reducible refine fastK Tryz.prog rfl ?_); go_big_move) | (with_reducible refine fastN rfl ?_) | skip))) | ((with_reducible refine on_load ?_); (first | refine xl1 M ?_ | refine xlN M ?_); go_big_move) | ((with_reducible refine on_store ?_); (first | refine xs1 M ?_ | refine xsN M ?_); clear M; intro w' M; (try simp only [List.set_cons_zero, List.set_cons_succ] at M)) | ((with_reducible refine on_box ?_); refine xb M ?_; clear M; intro g w' M; go_big_move) | ((with_reducible refine on_alloc ?_); refine xa M ?_; clear M; intro g w' M; go_big_move)) | go_values | go_skip | go_guarded | go_step | go_upon))
      obtain ⟨m, rfl, hPm, hTm, hHm⟩ := HBK.out HL.out o ho
      obtain ⟨g2, rfl, hX, hz2, hB2⟩ := hx
      refine Lib.hid ?_
      replace M := M.ext hX
      replace hB := hB.ext hX
      clear hX
      dsimp only
      have HT2 : Hid (∀ w', Ext w w' → Box w' g2 53 #[ndO (some m)] → Calls Tryz.prog 11 #[.pointer (some ⟨g2, 0, none⟩)] w' fun e w'' => e = .returned (str t) ∧ Ext w' w'') := Lib.hid (fun w' hX hB => by rw [← hTm]; exact filter_text m _ (text_of hPm) g2 w' (HNv.out.ext hX) hB)
      have HH2 : Hid (∀ w', Ext w w' → Box w' g2 53 #[ndO (some m)] → Calls Tryz.prog 9 #[.pointer (some ⟨g2, 0, none⟩), .agg #[fi a.a0, fi a.a1, fi a.a2, str a.id, fi a.a4, fi a.a5, fi a.a6, fi a.a7, fi a.a8, fi a.a9, fi a.a10, fi a.a11, fi a.a12, fi a.a13, fi a.a14, fi a.a15, fi a.a16]] w' fun e w'' => e = .returned (.bool b) ∧ Ext w' w'') := Lib.hid (fun w' hX hB => by
        rw [← hHm]
        exact filter_holds a (some m) (fun m' hm => by cases hm; exact (parse_valid hPm).1) g2 w' (HNv.out.ext hX) hB)
      have g2' : (t == t) = true := by simp
      have g3 : (b == b) = true := by simp
      clear ho hPm hTm hHm
      (try dsimp only); (repeat (first | (first | (go_at_call 11; (with_reducible refine (HT2.out _ M.ext_of hB2).mono ?_); rintro _ w3 ⟨rfl, hX⟩; replace M := M.ext hX; replace hB := hB.ext hX; replace hB2 := hB2.ext hX; clear hX; dsimp only) | (go_at_call 9; (first | (with_reducible refine (HH.out _ M.ext_of hB).mono ?_) | (with_reducible refine (HH2.out _ M.ext_of hB2).mono ?_)); rintro _ w3 ⟨rfl, hX⟩; replace M := M.ext hX; replace hB := hB.ext hX; replace hB2 := hB2.ext hX; clear hX; dsimp only) | ((with_reducible refine wl_g ?_); first | go_big_want | go_skip | ((with_reducible refine wl_off (by kernel_rfl) ?_); (first | ((with_reducible refine fastK Tryz.prog rfl ?_); go_big_move) | (with_reducible refine fastN rfl ?_) | skip))) | ((with_reducible refine on_load ?_); (first | refine xl1 M ?_ | refine xlN M ?_); go_big_move) | ((with_reducible refine on_store ?_); (first | refine xs1 M ?_ | refine xsN M ?_); clear M; intro w' M; (try simp only [List.set_cons_zero, List.set_cons_succ] at M)) | ((with_reducible refine on_box ?_); refine xb M ?_; clear M; intro g w' M; go_big_move) | ((with_reducible refine on_alloc ?_); refine xa M ?_; clear M; intro g w' M; go_big_move)) | go_values | go_skip | go_guarded | go_step | go_upon))
      exact ret_m1 rfl (Out.tmp rfl) rfl ⟨rfl, M.ext_of⟩
    · have g1 : decide (512 < (t.length : Int)) = true := by simp; omega
      clear hl
      (try dsimp only); (repeat (first | (first | (go_at_call 8; (with_reducible refine (HRP.out _).mono ?_); rintro e2 w2 ⟨o2, ho2, hx2⟩; cases parse_same HO.out ho2; obtain ⟨A, c, rfl, hX, hO⟩ := hx2; replace M := M.ext hX; replace hB := hB.ext hX; clear hX hO; dsimp only) | (go_at_call 11; (with_reducible refine (HT.out _ M.ext_of hB).mono ?_); rintro _ w3 ⟨rfl, hX⟩; replace M := M.ext hX; replace hB := hB.ext hX; clear hX; dsimp only) | ((with_reducible refine wl_g ?_); first | go_big_want | go_skip | ((with_reducible refine wl_off (by kernel_rfl) ?_); (first | ((with_reducible refine fastK Tryz.prog rfl ?_); go_big_move) | (with_reducible refine fastN rfl ?_) | skip))) | ((with_reducible refine on_load ?_); (first | refine xl1 M ?_ | refine xlN M ?_); go_big_move) | ((with_reducible refine on_store ?_); (first | refine xs1 M ?_ | refine xsN M ?_); clear M; intro w' M; (try simp only [List.set_cons_zero, List.set_cons_succ] at M)) | ((with_reducible refine on_box ?_); refine xb M ?_; clear M; intro g w' M; go_big_move) | ((with_reducible refine on_alloc ?_); refine xa M ?_; clear M; intro g w' M; go_big_move)) | go_values | go_skip | go_guarded | go_step | go_upon))
      exact ret_m1 rfl (Out.tmp rfl) rfl ⟨rfl, M.ext_of⟩
  · obtain ⟨rfl, hX⟩ := hx
    refine Lib.hid ?_
    replace M := M.ext hX
    dsimp only
    clear hX
    (try dsimp only); (repeat (first | (first | (go_at_call 8; (with_reducible refine (HRP.out _).mono ?_); rintro e2 w2 ⟨o2, ho2, hx2⟩; cases parse_same HO.out ho2; obtain ⟨rfl, hX⟩ := hx2; replace M := M.ext hX; clear hX; dsimp only) | ((with_reducible refine wl_g ?_); first | go_big_want | go_skip | ((with_reducible refine wl_off (by kernel_rfl) ?_); (first | ((with_reducible refine fastK Tryz.prog rfl ?_); go_big_move) | (with_reducible refine fastN rfl ?_) | skip))) | ((with_reducible refine on_load ?_); (first | refine xl1 M ?_ | refine xlN M ?_); go_big_move) | ((with_reducible refine on_store ?_); (first | refine xs1 M ?_ | refine xsN M ?_); clear M; intro w' M; (try simp only [List.set_cons_zero, List.set_cons_succ] at M)) | ((with_reducible refine on_box ?_); refine xb M ?_; clear M; intro g w' M; go_big_move) | ((with_reducible refine on_alloc ?_); refine xa M ?_; clear M; intro g w' M; go_big_move)) | go_values | go_skip | go_guarded | go_step | go_upon))
    exact ret_m1 rfl (Out.tmp rfl) rfl ⟨rfl, M.ext_of⟩
end Go.Proofs.YtkblkdnihppmnaaGreatDoor
