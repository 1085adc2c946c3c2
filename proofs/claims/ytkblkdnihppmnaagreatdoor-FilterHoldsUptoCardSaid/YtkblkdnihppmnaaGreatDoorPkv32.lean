/- Parts of this work, one behind the other: FiltZe. -/
import Derived.Test.YtkblkdnihppmnaaGreatDoorPkv28
import Derived.Test.YtkblkdnihppmnaaGreatDoorPkv2
import Derived.Test.YtkblkdnihppmnaaGreatDoorPkv14
/- Filters (layer 21): a part's text (walk, fourth part): a number. -/
namespace Go.Proofs.YtkblkdnihppmnaaGreatDoor
set_option linter.unusedSimpArgs false
set_option linter.unusedVariables false
open Go.RowKit Res Filt

theorem status_fields (w : World) (hN : Nv w) :
    Calls Tryz.prog 78 #[str statusText] w fun e w' => ∃ g, e = .returned (.slice (some ⟨g, 0, none⟩) 7 7) ∧ Ext w w' ∧ g < w'.heap.size ∧ ∀ (j : Nat) (t : List UInt8), statusNames[j]? = some t → w'.cell? ⟨g, j, none⟩ = some (str t) := by
  refine (fields_any statusText statusNames (by decide) (low_all (by decide)) (by kernel_rfl) w hN).mono fun e w' ⟨g, h1, h2, h3, h4⟩ => ⟨g, h1, h2, h4.lt, fun j t hj => ?_⟩
  rw [h4.cell]
  simp [hj]
def numT' (f k : Nat) (v : List UInt8) : List UInt8 := (((fieldNames.getD f [] ++ [32]) ++ askNames.getD k []) ++ [32]) ++ v
theorem numT_is (f k : Nat) (n : Int) : Filt.numT f k n = numT' f k (if f = 2 ∧ 1 ≤ n ∧ n ≤ 7 then statusNames.getD (n.toNat - 1) [] else Lib.itoa n) := by
  unfold Filt.numT numT'
  simp
set_option maxRecDepth 100000 in
set_option maxHeartbeats 800000 in
theorem number_text_word (nm ask t : List UInt8) (n : Int) (h1 : 1 ≤ n) (h7 : n ≤ 7) (hq : (nm == [115, 116, 97, 116, 117, 115]) = true) (ht : statusNames[n.toNat - 1]? = some t) (hnm : nm.length ≤ 8) (hask : ask.length ≤ 2) (htl : t.length ≤ 9) (w : World) (hN : Nv w) :
    Calls Tryz.prog 137 #[.agg #[str nm, str ask, fi n]] w fun e w' => e = .returned (str ((((nm ++ [32]) ++ ask) ++ [32]) ++ t)) ∧ Ext w w' := by
  have M := Mem.start w
  have HI : Hid (∀ w', Ext w w' → Calls Tryz.prog 35 #[.int .i64 n, .int .i64 10] w' fun e w'' => e = .returned (str (Lib.itoa n)) ∧ Ext w' w'') := Lib.hid (fun w' hX => formatInt_any n ⟨by omega, by omega⟩ w' (hN.ext hX))
  have HF := Lib.hid (fun (w' : World) (hX : Ext w w') => status_fields w' (hN.ext hX))
  have q1 : decide (1 ≤ n) = true := by simpa using h1
  have q2 : decide (n ≤ 7) = true := by simpa using h7
  have hw1 : IntKind.i64.wrap (n - 1) = n - 1 := IntWalk.i64_in _ (by omega)
  have HT := Lib.hid ht
  have H1 := Lib.hid (run_cat nm [32] (by simp; omega))
  have H2 := Lib.hid (run_cat (nm ++ [32]) ask (by simp; omega))
  have H3 := Lib.hid (run_cat ((nm ++ [32]) ++ ask) [32] (by simp; omega))
  have H4 := Lib.hid (run_cat (((nm ++ [32]) ++ ask) ++ [32]) t (by simp; omega))
  clear ht hN
  go_enter Tryz.func137, Tryz.ntmps137
  (try dsimp only); (repeat (first | (first | (go_at_call 35; (with_reducible refine (HI.out _ M.ext_of).mono ?_); rintro _ w1 ⟨rfl, hX⟩; replace M := M.ext hX; clear hX; dsimp only) | (go_at_call 78; (with_reducible refine (HF.out _ M.ext_of).mono ?_); rintro _ w1 ⟨g, rfl, hX, hg, hc⟩; replace M := M.ext hX; clear hX; have hv := hc _ _ HT.out; clear hc; dsimp only) | ((with_reducible refine on_bin ?_); (first | refine wp_bin rfl rfl rfl rfl (H1.out _) ?_ | refine wp_bin rfl rfl rfl rfl (H2.out _) ?_ | refine wp_bin rfl rfl rfl rfl (H3.out _) ?_ | refine wp_bin rfl rfl rfl rfl (H4.out _) ?_); (first | ((with_reducible refine fastK Tryz.prog rfl ?_); go_big_move) | (with_reducible refine fastN rfl ?_) | skip)) | ((with_reducible refine on_load ?_); refine xlC hv ?_; go_big_move) | ((with_reducible refine wl_g ?_); first | go_big_want | go_skip | ((with_reducible refine wl_off (by kernel_rfl) ?_); (first | ((with_reducible refine fastK Tryz.prog rfl ?_); go_big_move) | (with_reducible refine fastN rfl ?_) | skip))) | ((with_reducible refine on_load ?_); (first | refine xl1 M ?_ | refine xlN M ?_); go_big_move) | ((with_reducible refine on_box ?_); refine xb M ?_; clear M; intro g w' M; go_big_move)) | go_values | go_skip | go_guarded | go_step | go_upon))
  exact ret_m1 rfl (Out.tmp rfl) rfl ⟨rfl, M.ext_of⟩
set_option maxRecDepth 100000 in
set_option maxHeartbeats 800000 in
theorem number_text_plain (nm ask t : List UInt8) (n : Int) (hn : I64 n) (hq : (nm == [115, 116, 97, 116, 117, 115]) = false ∨ ((nm == [115, 116, 97, 116, 117, 115]) = true ∧ decide (1 ≤ n) = false) ∨ ((nm == [115, 116, 97, 116, 117, 115]) = true ∧ decide (1 ≤ n) = true ∧ decide (n ≤ 7) = false)) (ht : Lib.itoa n = t) (hnm : nm.length ≤ 8) (hask : ask.length ≤ 2) (htl : t.length ≤ 21) (w : World) (hN : Nv w) :
    Calls Tryz.prog 137 #[.agg #[str nm, str ask, fi n]] w fun e w' => e = .returned (str ((((nm ++ [32]) ++ ask) ++ [32]) ++ t)) ∧ Ext w w' := by
  have M := Mem.start w
  have HI : Hid (∀ w', Ext w w' → Calls Tryz.prog 35 #[.int .i64 n, .int .i64 10] w' fun e w'' => e = .returned (str t) ∧ Ext w' w'') := Lib.hid (fun w' hX => by rw [← ht]; exact formatInt_any n hn w' (hN.ext hX))
  have HF := Lib.hid (fun (w' : World) (hX : Ext w w') => status_fields w' (hN.ext hX))
  have H1 := Lib.hid (run_cat nm [32] (by simp; omega))
  have H2 := Lib.hid (run_cat (nm ++ [32]) ask (by simp; omega))
  have H3 := Lib.hid (run_cat ((nm ++ [32]) ++ ask) [32] (by simp; omega))
  have H4 := Lib.hid (run_cat (((nm ++ [32]) ++ ask) ++ [32]) t (by simp; omega))
  clear ht hN hn
  rcases hq with q0 | ⟨q0, q1⟩ | ⟨q0, q1, q2⟩
  all_goals
    go_enter Tryz.func137, Tryz.ntmps137
    (try dsimp only); (repeat (first | (first | (go_at_call 35; (with_reducible refine (HI.out _ M.ext_of).mono ?_); rintro _ w1 ⟨rfl, hX⟩; replace M := M.ext hX; clear hX; dsimp only) | (go_at_call 78; (with_reducible refine (HF.out _ M.ext_of).mono ?_); rintro _ w1 ⟨g, rfl, hX, hg, hc⟩; replace M := M.ext hX; clear hX; (clear hc; have hv := True.intro); dsimp only) | ((with_reducible refine on_bin ?_); (first | refine wp_bin rfl rfl rfl rfl (H1.out _) ?_ | refine wp_bin rfl rfl rfl rfl (H2.out _) ?_ | refine wp_bin rfl rfl rfl rfl (H3.out _) ?_ | refine wp_bin rfl rfl rfl rfl (H4.out _) ?_); (first | ((with_reducible refine fastK Tryz.prog rfl ?_); go_big_move) | (with_reducible refine fastN rfl ?_) | skip)) | ((with_reducible refine on_load ?_); refine xlC hv ?_; go_big_move) | ((with_reducible refine wl_g ?_); first | go_big_want | go_skip | ((with_reducible refine wl_off (by kernel_rfl) ?_); (first | ((with_reducible refine fastK Tryz.prog rfl ?_); go_big_move) | (with_reducible refine fastN rfl ?_) | skip))) | ((with_reducible refine on_load ?_); (first | refine xl1 M ?_ | refine xlN M ?_); go_big_move) | ((with_reducible refine on_box ?_); refine xb M ?_; clear M; intro g w' M; go_big_move)) | go_values | go_skip | go_guarded | go_step | go_upon))
    exact ret_m1 rfl (Out.tmp rfl) rfl ⟨rfl, M.ext_of⟩
theorem number_text (f k : Nat) (n : Int) (hf : f < 13) (hn : I64 n) : TextIs (.num f k n) (Filt.numT f k n) := by
  intro w hN
  rw [numT_is]
  have e2 : ((fieldNames.getD f [] == [115, 116, 97, 116, 117, 115]) = true) ↔ f = 2 := by
    have h : ((List.range 13).all fun f => decide (((fieldNames.getD f [] == [115, 116, 97, 116, 117, 115]) = true) ↔ f = 2)) = true := by decide
    simpa using List.all_eq_true.1 h f (List.mem_range.2 hf)
  by_cases h : f = 2 ∧ 1 ≤ n ∧ n ≤ 7
  · rw [if_pos h]
    have hl : n.toNat - 1 < statusNames.length := by show n.toNat - 1 < 7; omega
    exact number_text_word _ _ _ n h.2.1 h.2.2 (e2.2 h.1) (by rw [List.getD_eq_getElem?_getD, List.getElem?_eq_getElem hl]; rfl) (field_len f) (ask_len k) (status_len _) w hN
  · rw [if_neg h]
    refine number_text_plain _ _ _ n hn ?_ rfl (field_len f) (ask_len k) (itoa_len hn) w hN
    by_cases h1 : f = 2
    · by_cases h2 : 1 ≤ n
      · exact .inr (.inr ⟨e2.2 h1, by simpa using h2, by simp; omega⟩)
      · exact .inr (.inl ⟨e2.2 h1, by simp; omega⟩)
    · exact .inl (by rw [Bool.eq_false_iff]; exact fun h => h1 (e2.1 h))
theorem text_node : ∀ n : Nd, Valid n → 100 * n.size ≤ 1000000 → TextIs n (ftxt n)
  | .num f k n, h, _ => number_text f k n h.1 h.2.2
  | .idt k t, h, _ => by
    have e : ftxt (.idt k t) = idtT k t := by
      show Filt.idtT k t = idtT k t
      unfold Filt.idtT idtT
      simp
    rw [e]
    exact named_text k h.1 t h.2.1
  | .not n, h, hs => by
    have hs' : 100 * n.size ≤ 1000000 := by simp only [Nd.size] at hs; omega
    have hl : (txt Filt.numT Filt.idtT n).length ≤ 100 * n.size := ftxt_len (n := n) h
    exact not_text n _ (text_node n h hs') (by omega)
  | .all a b, h, hs => by
    have ha : 100 * a.size ≤ 1000000 := by simp only [Nd.size] at hs; omega
    have hb : 100 * b.size ≤ 1000000 := by simp only [Nd.size] at hs; omega
    have la : (txt Filt.numT Filt.idtT a).length ≤ 100 * a.size := ftxt_len (n := a) h.1
    have lb : (txt Filt.numT Filt.idtT b).length ≤ 100 * b.size := ftxt_len (n := b) h.2
    exact all_text a b _ _ (text_node a h.1 ha) (text_node b h.2 hb) (by omega) (by omega)
  | .any a b, h, hs => by
    have ha : 100 * a.size ≤ 1000000 := by simp only [Nd.size] at hs; omega
    have hb : 100 * b.size ≤ 1000000 := by simp only [Nd.size] at hs; omega
    have la : (txt Filt.numT Filt.idtT a).length ≤ 100 * a.size := ftxt_len (n := a) h.1
    have lb : (txt Filt.numT Filt.idtT b).length ≤ 100 * b.size := ftxt_len (n := b) h.2
    exact any_text a b _ _ (text_node a h.1 ha) (text_node b h.2 hb) (by omega) (by omega)
end Go.Proofs.YtkblkdnihppmnaaGreatDoor
