/- Parts of this work, one behind the other: OrphR. -/
import Derived.Deep.CutRange
import Derived.Test.YtmmaddmlfofgbaaDoorPko9
import Derived.Test.YtmmaddmlfofgbaaDoorPko2
import Derived.Test.YtmmaddmlfofgbaaDoorPko6
/- Orphans (layer 10): the document's (walk; printed by gen_orphr.py). -/
namespace Go.Proofs.YtmmaddmlfofgbaaDoor
set_option linter.unusedSimpArgs false
set_option linter.unusedVariables false
open Go.RowKit Res

theorem bytesLess_lt : ∀ a b : List UInt8, Op.bytesLess a b = decide (a < b)
  | [], [] => rfl
  | [], y :: b => by simp [Op.bytesLess]
  | x :: a, [] => by simp [Op.bytesLess]
  | x :: a, y :: b => by
    have ih := bytesLess_lt a b
    unfold Op.bytesLess
    rw [ih]
    by_cases h : x < y
    · simp [h, List.cons_lt_cons_iff]
    · by_cases h2 : x = y
      · subst h2
        simp [List.cons_lt_cons_iff, UInt8.lt_irrefl]
      · simp [h, h2, List.cons_lt_cons_iff]
def sV (s : List UInt8) : List Value := [str s]
theorem sV_len (s : List UInt8) : (sV s).length = 1 := rfl
theorem sV_one : ∀ (x : List UInt8) (u : Value), u ∈ sV x → u.oneCell' = true := fun x u h => by rw [sV, List.mem_singleton] at h; rw [h]; rfl
theorem strE : ElemOf Tryd.prog 23 9 1 16 := elemOf_mk Tryd.underlying23 (z := .string ⟨#[]⟩) (by kernel_rfl) rfl (by decide)
theorem gather_snoc (K : List UInt8 → Bool) (s : List UInt8) : ∀ (l out : List (List UInt8)), Orph.gather K out (l ++ [s]) = (if K s then Orph.put (Orph.gather K out l) s else Orph.gather K out l)
  | [], out => rfl
  | x :: l, out => gather_snoc K s l _
theorem Row.tk {α : Type} {f : α → List Value} {w : World} {lo hi sz : Nat} {A : Option Addr} {l : List α} (hf : ∀ x, (f x).length = sz) (h : Row w lo hi sz A l.length (l.flatMap f)) {k : Nat} (hk : k ≤ l.length) : Row w lo hi sz A k ((l.take k).flatMap f) :=
  ⟨by rw [length_flatMap' hf, List.length_take, Nat.min_eq_left hk], fun h0 => by
    obtain ⟨b, off, e, h1, h2, hc⟩ := h.mem (by omega)
    exact ⟨b, off, e, h1, h2, fun j u hu => hc j u (part_take l k j hu)⟩⟩
theorem Row.dp {α : Type} {f : α → List Value} {w : World} {lo hi sz b off : Nat} {l : List α} (hf : ∀ x, (f x).length = sz) (h : Row w lo hi sz (some ⟨b, off, none⟩) l.length (l.flatMap f)) {k : Nat} (hk : k ≤ l.length) : Row w lo hi sz (some ⟨b, off + k * sz, none⟩) (l.length - k) ((l.drop k).flatMap f) :=
  ⟨by rw [length_flatMap' hf, List.length_drop], fun h0 => by
    obtain ⟨b', off', e, h1, h2, hc⟩ := h.mem (by omega)
    injection e with e
    injection e with e1 e2
    subst e1 e2
    exact ⟨_, _, rfl, h1, h2, fun j u hu => by rw [Nat.add_assoc]; exact hc _ u (part_drop hf l hk j hu)⟩⟩
theorem Row.zero {w : World} {lo hi sz : Nat} {A : Option Addr} : Row w lo hi sz A 0 [] := ⟨by simp, fun h => absurd h (by omega)⟩
theorem Mem.rowTake {S : Nat → Prop} {w0 w : World} {l : List Res} {F : Res → List Res} {e : TypeId} {g c k : Nat} {xs : List (List UInt8)} (M : Mem S w0 l w) (p : Pick l (ow e sV 1 (some ⟨g, 0, none⟩) c xs) F) (hk : k ≤ xs.length) : Row w 0 w.heap.size 1 (some ⟨g, 0, none⟩) k ((xs.take k).flatMap sV) := by
  have h := Row.tk (k := k) (f := sV) (fun _ => rfl) ((M.own p).row) hk
  exact h
theorem Mem.cell1 {S : Nat → Prop} {w0 w : World} {l : List Res} {F : Res → List Res} {e : TypeId} {g c k : Nat} {xs : List (List UInt8)} {y : List UInt8} (M : Mem S w0 l w) (p : Pick l (ow e sV 1 (some ⟨g, 0, none⟩) c xs) F) (hy : xs[k]? = some y) : w.cell? ⟨g, k, none⟩ = some (str y) := by
  have h := M.cellO (k := k) (x := y) (j := 0) sV_len p hy rfl
  rwa [Nat.mul_one, Nat.add_zero] at h
theorem Mem.form {S : Nat → Prop} {w0 w : World} {l : List Res} {F : Res → List Res} {e : TypeId} {A : Option Addr} {c : Nat} {xs : List (List UInt8)} (M : Mem S w0 l w) (p : Pick l (ow e sV 1 A c xs) F) : (A = none ∧ xs = [] ∧ c = 0) ∨ ∃ g, A = some ⟨g, 0, none⟩ := by
  rcases (M.own p).2 with ⟨h', _⟩ | ⟨g', cap', cur, h', _⟩
  · injection h' with h1 h2 h3
    exact .inl ⟨h1, List.eq_nil_of_length_eq_zero h2, h3⟩
  · injection h' with h1 h2 h3
    exact .inr ⟨g', h1⟩
theorem Mem.rowDrop {S : Nat → Prop} {w0 w : World} {l : List Res} {F : Res → List Res} {e : TypeId} {g c k : Nat} {xs : List (List UInt8)} (M : Mem S w0 l w) (p : Pick l (ow e sV 1 (some ⟨g, 0, none⟩) c xs) F) (hk : k ≤ xs.length) : Row w 0 w.heap.size 1 (some ⟨g, k, none⟩) (xs.length - k) ((xs.drop k).flatMap sV) := by
  have h := Row.dp (k := k) (f := sV) (fun _ => rfl) ((M.own p).row) hk
  rwa [Nat.mul_one, Nat.zero_add] at h
set_option maxRecDepth 100000 in
set_option maxHeartbeats 4000000 in
theorem orphans_ref (v : Live) (p : Place) (hl : ∀ k, k < 4 → (v.tab k).length ≤ 1099511627776) (hnl : (numsOf v).length ≤ 1099511627776) (name : List UInt8) (names : List (List UInt8)) (hn : names.length ≤ 1048576) (hs : ∀ s ∈ names, s.length ≤ 140737488355328) (b off c : Nat) (w : World) (hr : LiveAt w v p) (hc : ∀ i s, names[i]? = some s → w.cell? ⟨b, off + i, none⟩ = some (str s)) :
    Calls Tryd.prog 6 #[.agg (v.cells p), str name, .slice (some ⟨b, off, none⟩) names.length c] w fun e w' => ∃ A' c', e = .returned (.slice A' (Orph.gather (keepD v name) [] names).length c') ∧ Own w' w.heap.size 9 sV 1 A' c' (Orph.gather (keepD v name) [] names) ∧ Ext w w' := by
  show Calls Tryd.prog 6 #[.agg #[.int .u64 v.next, .int .u64 v.seq, .int .u64 v.log, .slice (p.A 0) (v.tab 0).length (p.c 0), .slice (p.A 1) (v.tab 1).length (p.c 1), .slice (p.A 2) (v.tab 2).length (p.c 2), .slice (p.A 3) (v.tab 3).length (p.c 3)], str name, .slice (some ⟨b, off, none⟩) names.length c] w _
  have M := (Mem.start w).nil_ 9 sV 1
  have HNU : Hid (∀ w', Ext w w' → Calls Tryd.prog 16 #[.agg #[.int .u64 v.next, .int .u64 v.seq, .int .u64 v.log, .slice (p.A 0) (v.tab 0).length (p.c 0), .slice (p.A 1) (v.tab 1).length (p.c 1), .slice (p.A 2) (v.tab 2).length (p.c 2), .slice (p.A 3) (v.tab 3).length (p.c 3)]] w' fun e w'' => ∃ A c, e = .returned (.slice A (numsOf v).length c) ∧ Row w'' 0 w''.heap.size 1 A (numsOf v).length ((numsOf v).flatMap u64C) ∧ Ext w' w'') := Lib.hid (fun w' hX => numbers_ref v p hl w' (hr.ext hX))
  have HC := Lib.hid hc
  have HS := Lib.hid hs
  have HKD := Lib.hid (fun s => (rfl : keepD v name s = _))
  clear hr hc hs
  go_enter Tryd.func6, Tryd.ntmps6
  (try dsimp only); (repeat (first | (first | ((with_reducible refine wl_g ?_); first | go_big_want | go_skip | ((with_reducible refine wl_off (by kernel_rfl) ?_); (first | ((with_reducible refine fastK Tryd.prog rfl ?_); go_big_move) | (with_reducible refine fastN rfl ?_) | skip))) | ((with_reducible refine on_load ?_); (first | refine xl1 M ?_ | refine xlN M ?_); go_big_move) | ((with_reducible refine on_store ?_); (first | refine xs1 M ?_ | refine xsN M ?_); clear M; intro w' M; (try simp only [List.set_cons_zero, List.set_cons_succ] at M)) | ((with_reducible refine on_box ?_); refine xb M ?_; clear M; intro g w' M; go_big_move) | ((with_reducible refine on_alloc ?_); refine xa M ?_; clear M; intro g w' M; go_big_move)) | go_values | go_skip | go_guarded | go_step | go_upon))
  obtain ⟨gL, hgL⟩ : ∃ x, x = g := ⟨_, rfl⟩
  subst hgL
  replace M := M.perm (List.Perm.swap _ _ _)
  go_loopw [7, 8] (fun x y wr => ∃ (i : Nat) (out : List (List UInt8)) (A : Option Addr) (c : Nat), x = .slice A out.length c ∧ y = fj (i : Int) ∧ i ≤ names.length ∧ out.length ≤ i ∧ Hid (Orph.gather (keepD v name) [] (names.take i) = out) ∧ Mem (· < w.heap.size) w [ow 9 sV 1 A c out, bx gL 28 [.int .u64 v.next, .int .u64 v.seq, .int .u64 v.log, .slice (p.A 0) (v.tab 0).length (p.c 0), .slice (p.A 1) (v.tab 1).length (p.c 1), .slice (p.A 2) (v.tab 2).length (p.c 2), .slice (p.A 3) (v.tab 3).length (p.c 3)]] wr) (fun _ y _ => names.length - (intOf y).toNat)
  · exact ⟨0, [], none, 0, rfl, rfl, by omega, by simp, Lib.hid rfl, M⟩
  · clear M
    obtain ⟨i, out, A, c1, rfl, rfl, hi, ho, HG0, M⟩ := hrel
    rcases Nat.lt_or_ge i names.length with hlt | hge
    · have q1 : decide ((i : Int) < (names.length : Int)) = true := by simp; omega
      have hwi : IntKind.i64.wrap ((i : Int) + 1) = (i : Int) + 1 := IntWalk.i64_in _ (by omega)
      obtain ⟨s, hsi⟩ : ∃ s, names[i]? = some s := ⟨_, List.getElem?_eq_getElem hlt⟩
      have C0 := Lib.hid (HC.out i s hsi)
      have hsl := HS.out s (List.mem_of_getElem? hsi)
      have HN : Hid (Orph.gather (keepD v name) [] (names.take (i + 1)) = if keepD v name s then Orph.put out s else out) := Lib.hid (by
        rw [List.take_add_one, hsi]
        show Orph.gather _ _ (names.take i ++ [s]) = _
        rw [gather_snoc, HG0.out])
      have HK : Hid (keepD v name s = !(decide (s = curT) || decide (s = name) || ((numbR tabT s).2 && decide ((numbR tabT s).1 ∈ numsOf v)) || ((numbR logT s).2 && decide (v.log ≤ (numbR logT s).1)))) := Lib.hid rfl
      have HT : Hid (∀ w, Calls Tryd.prog 13 #[str s] w fun e w' => e = .returned (.tuple #[.int .u64 ((numbR tabT s).1 : Int), .bool (numbR tabT s).2]) ∧ w = w') := Lib.hid (fun w => tab_numbered s hsl w)
      have HG : Hid (∀ w, Calls Tryd.prog 14 #[str s] w fun e w' => e = .returned (.tuple #[.int .u64 ((numbR logT s).1 : Int), .bool (numbR logT s).2]) ∧ w = w') := Lib.hid (fun w => log_numbered s hsl w)
      have HAM := Lib.hid (fun A c w hr => among_any (numsOf v) hnl (numbR tabT s).1 A c w hr)
      clear hsi
      generalize numbR tabT s = rt at HK HT HAM
      generalize numbR logT s = rl at HK HG
      obtain ⟨tn, tb⟩ := rt
      obtain ⟨ln, lb⟩ := rl
      dsimp only at HK HT HG HAM
      (try dsimp only); (repeat (go_not_at_region 8; first | (first | ((with_reducible refine on_load ?_); refine xlC (M.far C0.out) ?_; go_big_move) | (go_at_call 13; (with_reducible refine (HT.out _).mono ?_); rintro _ w1 ⟨rfl, rfl⟩; dsimp only) | (go_at_call 14; (with_reducible refine (HG.out _).mono ?_); rintro _ w1 ⟨rfl, rfl⟩; dsimp only) | ((with_reducible refine wl_g ?_); first | go_big_want | go_skip | ((with_reducible refine wl_off (by kernel_rfl) ?_); (first | ((with_reducible refine fastK Tryd.prog rfl ?_); go_big_move) | (with_reducible refine fastN rfl ?_) | skip))) | ((with_reducible refine on_load ?_); (first | refine xl1 M ?_ | refine xlN M ?_); go_big_move) | ((with_reducible refine on_store ?_); (first | refine xs1 M ?_ | refine xsN M ?_); clear M; intro w' M; (try simp only [List.set_cons_zero, List.set_cons_succ] at M)) | ((with_reducible refine on_box ?_); refine xb M ?_; clear M; intro g w' M; go_big_move) | ((with_reducible refine on_alloc ?_); refine xa M ?_; clear M; intro g w' M; go_big_move)) | go_values | go_skip | go_guarded | go_step | go_upon))
      go_cut [60] from 36 to 60 (fun vv wx => vv = .bool (!keepD v name s) ∧ Mem (· < w.heap.size) w [ow 9 sV 1 A c1 out, bx gL 28 [.int .u64 v.next, .int .u64 v.seq, .int .u64 v.log, .slice (p.A 0) (v.tab 0).length (p.c 0), .slice (p.A 1) (v.tab 1).length (p.c 1), .slice (p.A 2) (v.tab 2).length (p.c 2), .slice (p.A 3) (v.tab 3).length (p.c 3)]] wx)
      case first =>
        clear C0 HC HS HN HG0 HT HG HKD
        by_cases h1 : s = curT
        · have HKc : Hid (keepD v name s = false) := Lib.hid (by rw [HK.out]; simp [h1])
          have q2 : (s == [99, 117, 114, 114, 101, 110, 116]) = true := by rw [h1]; rfl
          clear h1
          (try dsimp only); (repeat (first | (first | (go_at_call 16; (with_reducible refine (HNU.out _ M.ext_of).mono ?_); rintro _ w1 ⟨AN, cN, rfl, hrow, hX⟩; replace M := M.ext hX; clear hX; dsimp only) | (go_at_call 15; (with_reducible refine (HAM.out _ _ _ hrow).mono ?_); rintro _ w1 ⟨rfl, rfl⟩; clear hrow; dsimp only) | ((with_reducible refine wl_g ?_); first | go_big_want | go_skip | ((with_reducible refine wl_off (by kernel_rfl) ?_); (first | ((with_reducible refine fastK Tryd.prog rfl ?_); go_big_move) | (with_reducible refine fastN rfl ?_) | skip))) | ((with_reducible refine on_load ?_); (first | refine xl1 M ?_ | refine xlN M ?_); go_big_move) | ((with_reducible refine on_store ?_); (first | refine xs1 M ?_ | refine xsN M ?_); clear M; intro w' M; (try simp only [List.set_cons_zero, List.set_cons_succ] at M)) | ((with_reducible refine on_box ?_); refine xb M ?_; clear M; intro g w' M; go_big_move) | ((with_reducible refine on_alloc ?_); refine xa M ?_; clear M; intro g w' M; go_big_move)) | go_values | go_skip | go_guarded | go_step | go_upon))
          go_meet
          exact ⟨by rw [HKc.out]; first | rfl | (rw [G1.out]; rfl), M⟩
        have q2 : (s == [99, 117, 114, 114, 101, 110, 116]) = false := beq_eq_false_iff_ne.2 h1
        by_cases h2 : s = name
        · have HKc : Hid (keepD v name s = false) := Lib.hid (by rw [HK.out]; simp [h2])
          have q3 : (s == name) = true := by rw [beq_iff_eq]; exact h2
          clear h1 h2
          (try dsimp only); (repeat (first | (first | (go_at_call 16; (with_reducible refine (HNU.out _ M.ext_of).mono ?_); rintro _ w1 ⟨AN, cN, rfl, hrow, hX⟩; replace M := M.ext hX; clear hX; dsimp only) | (go_at_call 15; (with_reducible refine (HAM.out _ _ _ hrow).mono ?_); rintro _ w1 ⟨rfl, rfl⟩; clear hrow; dsimp only) | ((with_reducible refine wl_g ?_); first | go_big_want | go_skip | ((with_reducible refine wl_off (by kernel_rfl) ?_); (first | ((with_reducible refine fastK Tryd.prog rfl ?_); go_big_move) | (with_reducible refine fastN rfl ?_) | skip))) | ((with_reducible refine on_load ?_); (first | refine xl1 M ?_ | refine xlN M ?_); go_big_move) | ((with_reducible refine on_store ?_); (first | refine xs1 M ?_ | refine xsN M ?_); clear M; intro w' M; (try simp only [List.set_cons_zero, List.set_cons_succ] at M)) | ((with_reducible refine on_box ?_); refine xb M ?_; clear M; intro g w' M; go_big_move) | ((with_reducible refine on_alloc ?_); refine xa M ?_; clear M; intro g w' M; go_big_move)) | go_values | go_skip | go_guarded | go_step | go_upon))
          go_meet
          exact ⟨by rw [HKc.out]; first | rfl | (rw [G1.out]; rfl), M⟩
        have q3 : (s == name) = false := beq_eq_false_iff_ne.2 h2
        have HK2 : Hid (keepD v name s = !((tb && decide (tn ∈ numsOf v)) || (lb && decide (v.log ≤ ln)))) := Lib.hid (by rw [HK.out]; simp [h1, h2])
        clear h1 h2 HK
        obtain ⟨am, ham⟩ : ∃ am, decide (tn ∈ numsOf v) = am := ⟨_, rfl⟩
        rw [ham] at HK2 HAM
        have hlg : (decide (v.log ≤ ln) = true ∧ decide ((v.log : Int) ≤ (ln : Int)) = true) ∨ (decide (v.log ≤ ln) = false ∧ decide ((v.log : Int) ≤ (ln : Int)) = false) := by
          by_cases h : v.log ≤ ln
          · exact .inl ⟨decide_eq_true h, decide_eq_true (by omega)⟩
          · exact .inr ⟨decide_eq_false h, decide_eq_false (by omega)⟩
        rcases hlg with ⟨g1, g2⟩ | ⟨g1, g2⟩
        all_goals
          rw [g1] at HK2
          have G1 := Lib.hid g1
          clear ham g1
          cases tb <;> cases am <;> cases lb
          all_goals
            have HKc := HK2
            simp only [Bool.and_true, Bool.and_false, Bool.true_and, Bool.false_and, Bool.or_true, Bool.or_false, Bool.true_or, Bool.false_or, Bool.not_true, Bool.not_false] at HKc
            (try dsimp only); (repeat (first | (first | (go_at_call 16; (with_reducible refine (HNU.out _ M.ext_of).mono ?_); rintro _ w1 ⟨AN, cN, rfl, hrow, hX⟩; replace M := M.ext hX; clear hX; dsimp only) | (go_at_call 15; (with_reducible refine (HAM.out _ _ _ hrow).mono ?_); rintro _ w1 ⟨rfl, rfl⟩; clear hrow; dsimp only) | ((with_reducible refine wl_g ?_); first | go_big_want | go_skip | ((with_reducible refine wl_off (by kernel_rfl) ?_); (first | ((with_reducible refine fastK Tryd.prog rfl ?_); go_big_move) | (with_reducible refine fastN rfl ?_) | skip))) | ((with_reducible refine on_load ?_); (first | refine xl1 M ?_ | refine xlN M ?_); go_big_move) | ((with_reducible refine on_store ?_); (first | refine xs1 M ?_ | refine xsN M ?_); clear M; intro w' M; (try simp only [List.set_cons_zero, List.set_cons_succ] at M)) | ((with_reducible refine on_box ?_); refine xb M ?_; clear M; intro g w' M; go_big_move) | ((with_reducible refine on_alloc ?_); refine xa M ?_; clear M; intro g w' M; go_big_move)) | go_values | go_skip | go_guarded | go_step | go_upon))
            go_meet
            exact ⟨by rw [HKc.out]; first | rfl | (rw [G1.out]; rfl), M⟩
      case rest =>
        clear M
        obtain ⟨rfl, M⟩ := hcut
        obtain ⟨kb, hkb⟩ : ∃ kb, keepD v name s = kb := ⟨_, rfl⟩
        rw [hkb] at HN
        rw [hkb]
        clear HK HT HG HAM hkb
        cases kb with
        | false =>
          have HN2 : Hid (Orph.gather (keepD v name) [] (names.take (i + 1)) = out) := HN
          have q4 : (!false) = true := rfl
          rw [q4]
          (try dsimp only); (repeat (first | (first | ((with_reducible refine wl_g ?_); first | go_big_want | go_skip | ((with_reducible refine wl_off (by kernel_rfl) ?_); (first | ((with_reducible refine fastK Tryd.prog rfl ?_); go_big_move) | (with_reducible refine fastN rfl ?_) | skip))) | ((with_reducible refine on_load ?_); (first | refine xl1 M ?_ | refine xlN M ?_); go_big_move) | ((with_reducible refine on_store ?_); (first | refine xs1 M ?_ | refine xsN M ?_); clear M; intro w' M; (try simp only [List.set_cons_zero, List.set_cons_succ] at M)) | ((with_reducible refine on_box ?_); refine xb M ?_; clear M; intro g w' M; go_big_move) | ((with_reducible refine on_alloc ?_); refine xa M ?_; clear M; intro g w' M; go_big_move)) | go_values | go_skip | go_guarded | go_step | go_upon))
          (try rw [Exit.noGoto_ret])
          exact ⟨⟨i + 1, out, A, c1, rfl, by go_num, by omega, by omega, HN2, M⟩, by simp [intOf]; omega⟩
        | true =>
          have HN2 : Hid (Orph.gather (keepD v name) [] (names.take (i + 1)) = Orph.put out s) := HN
          have q4 : (!true) = false := rfl
          rw [q4]
          (try dsimp only); (repeat (first | (first | ((with_reducible refine wl_g ?_); first | go_big_want | go_skip | ((with_reducible refine wl_off (by kernel_rfl) ?_); (first | ((with_reducible refine fastK Tryd.prog rfl ?_); go_big_move) | (with_reducible refine fastN rfl ?_) | skip))) | ((with_reducible refine on_load ?_); (first | refine xl1 M ?_ | refine xlN M ?_); go_big_move) | ((with_reducible refine on_store ?_); (first | refine xs1 M ?_ | refine xsN M ?_); clear M; intro w' M; (try simp only [List.set_cons_zero, List.set_cons_succ] at M)) | ((with_reducible refine on_box ?_); refine xb M ?_; clear M; intro g w' M; go_big_move) | ((with_reducible refine on_alloc ?_); refine xa M ?_; clear M; intro g w' M; go_big_move)) | go_values | go_skip | go_guarded | go_step | go_upon))
          go_loopw [14] (fun x wr => ∃ k : Nat, x = fj (k : Int) ∧ k ≤ out.length ∧ Hid (∀ j y, j < k → out[j]? = some y → y < s) ∧ Mem (· < w.heap.size) w [ow 9 sV 1 A c1 out, bx gL 28 [.int .u64 v.next, .int .u64 v.seq, .int .u64 v.log, .slice (p.A 0) (v.tab 0).length (p.c 0), .slice (p.A 1) (v.tab 1).length (p.c 1), .slice (p.A 2) (v.tab 2).length (p.c 2), .slice (p.A 3) (v.tab 3).length (p.c 3)]] wr) (fun x _ => out.length - (intOf x).toNat)
          · exact ⟨0, rfl, by omega, Lib.hid (fun j y h => by omega), M⟩
          · clear M
            obtain ⟨k, rfl, hk, HB, M⟩ := hrel
            have hwk : IntKind.i64.wrap ((k : Int) + 1) = (k : Int) + 1 := IntWalk.i64_in _ (by omega)
            rcases Nat.lt_or_ge k out.length with hkl | hkl
            · have q5 : decide ((k : Int) < (out.length : Int)) = true := by simp; omega
              obtain ⟨y, hy⟩ : ∃ y, out[k]? = some y := ⟨_, List.getElem?_eq_getElem hkl⟩
              have HY := Lib.hid hy
              obtain ⟨gO, rfl⟩ := M.some_of Pick.head (by intro h; rw [h] at hkl; simp at hkl)
              by_cases hys : y < s
              · have q6 : Op.bytesLess y s = true := by rw [bytesLess_lt]; exact decide_eq_true hys
                have HB2 : Hid (∀ j z, j < k + 1 → out[j]? = some z → z < s) := Lib.hid (fun j z hj hz => by
                  rcases Nat.lt_or_ge j k with h | h
                  · exact HB.out j z h hz
                  · obtain rfl : j = k := by omega
                    rw [hy] at hz
                    cases hz
                    exact hys)
                clear hy hys HB
                (try dsimp only); (repeat (first | (first | ((with_reducible refine on_load ?_); refine xlC (M.cell1 Pick.head HY.out) ?_; go_big_move) | ((with_reducible refine wl_g ?_); first | go_big_want | go_skip | ((with_reducible refine wl_off (by kernel_rfl) ?_); (first | ((with_reducible refine fastK Tryd.prog rfl ?_); go_big_move) | (with_reducible refine fastN rfl ?_) | skip))) | ((with_reducible refine on_load ?_); (first | refine xl1 M ?_ | refine xlN M ?_); go_big_move) | ((with_reducible refine on_store ?_); (first | refine xs1 M ?_ | refine xsN M ?_); clear M; intro w' M; (try simp only [List.set_cons_zero, List.set_cons_succ] at M)) | ((with_reducible refine on_box ?_); refine xb M ?_; clear M; intro g w' M; go_big_move) | ((with_reducible refine on_alloc ?_); refine xa M ?_; clear M; intro g w' M; go_big_move)) | go_values | go_skip | go_guarded | go_step | go_upon))
                exact ⟨⟨k + 1, by go_num, by omega, HB2, M⟩, by simp [intOf]; omega⟩
              · have q6 : Op.bytesLess y s = false := by rw [bytesLess_lt]; exact decide_eq_false hys
                have hput := Orph.put_at s out k (by omega) HB.out (fun x hx => by rw [hy] at hx; cases hx; exact hys)
                rw [hy] at hput
                by_cases hye : y = s
                · have q7 : (y == s) = true := by rw [beq_iff_eq]; exact hye
                  have HN3 : Hid (Orph.gather (keepD v name) [] (names.take (i + 1)) = out) := Lib.hid (by rw [HN2.out, hput, if_pos (by rw [hye])])
                  clear hy hys HB hput hye
                  (try dsimp only); (repeat (first | (first | ((with_reducible refine on_load ?_); refine xlC (M.cell1 Pick.head HY.out) ?_; go_big_move) | ((with_reducible refine wl_g ?_); first | go_big_want | go_skip | ((with_reducible refine wl_off (by kernel_rfl) ?_); (first | ((with_reducible refine fastK Tryd.prog rfl ?_); go_big_move) | (with_reducible refine fastN rfl ?_) | skip))) | ((with_reducible refine on_load ?_); (first | refine xl1 M ?_ | refine xlN M ?_); go_big_move) | ((with_reducible refine on_store ?_); (first | refine xs1 M ?_ | refine xsN M ?_); clear M; intro w' M; (try simp only [List.set_cons_zero, List.set_cons_succ] at M)) | ((with_reducible refine on_box ?_); refine xb M ?_; clear M; intro g w' M; go_big_move) | ((with_reducible refine on_alloc ?_); refine xa M ?_; clear M; intro g w' M; go_big_move)) | go_values | go_skip | go_guarded | go_step | go_upon))
                  (try rw [Exit.noGoto_ret])
                  exact ⟨⟨i + 1, out, _, c1, rfl, by go_num, by omega, by omega, HN3, M⟩, by simp [intOf]; omega⟩
                · have q7 : (y == s) = false := beq_eq_false_iff_ne.2 hye
                  have HN3 : Hid (Orph.gather (keepD v name) [] (names.take (i + 1)) = out.take k ++ s :: out.drop k) := Lib.hid (by rw [HN2.out, hput, if_neg (fun h => hye (Option.some.inj h))])
                  clear hy hys HB hput hye
                  have hcap := M.cap Pick.head
                  have hkc : k < c1 := by omega
                  have hkc2 : (k : Int) < (c1 : Int) := by omega
                  have hkc3 : ¬ k = c1 := by omega
                  have hkc4 : ¬ c1 - k = 0 := by omega
                  have M := M.nil_ 9 sV 1
                  (try dsimp only); (repeat (first | (first | ((with_reducible refine on_load ?_); refine xlC (M.cell1 (by (repeat (first | exact Pick.head | apply Pick.tail)); done) HY.out) ?_; go_big_move) | ((with_reducible refine on_append ?_); refine wp_appends M strE _ _ rfl rfl (by (repeat (first | exact Pick.head | apply Pick.tail)); done) (by first | with_reducible rfl | (simp; done) | (simp; omega)) (out.take k) rfl (by first | with_reducible rfl | (simp; done) | (simp; omega)) (M.rowTake (xs := out) (by (repeat (first | exact Pick.head | apply Pick.tail)); done) hk) (by first | (intro h; cases h; done) | (intro _; rfl)) (fun _ => rfl) sV_one (by first | omega | (simp; done) | (simp; omega)) (by first | omega | (simp; done) | (simp; omega)) ?_; clear M; intro A' c' w' M; (first | ((with_reducible refine fastK Tryd.prog rfl ?_); go_big_move) | (with_reducible refine fastN rfl ?_) | skip)) | ((with_reducible refine on_append ?_); refine wp_appends M strE _ _ rfl rfl (by (repeat (first | exact Pick.head | apply Pick.tail)); done) (by first | with_reducible rfl | (simp; done) | (simp; omega)) (out.drop k) rfl (by first | with_reducible rfl | (simp; done) | (simp; omega)) (M.rowDrop (xs := out) (by (repeat (first | exact Pick.head | apply Pick.tail)); done) hk) (by first | (intro h; cases h; done) | (intro _; rfl)) (fun _ => rfl) sV_one (by first | omega | (simp; done) | (simp; omega)) (by first | omega | (simp; done) | (simp; omega)) ?_; clear M; intro A' c' w' M; (first | ((with_reducible refine fastK Tryd.prog rfl ?_); go_big_move) | (with_reducible refine fastN rfl ?_) | skip)) | ((with_reducible refine on_single ?_); refine x1 M strE ?_; clear M; intro g w' M; go_big_move) | ((with_reducible refine on_append ?_); refine xap M strE s sV_len sV_one ?_; clear M; intro A' c' w' M; go_big_move) | ((with_reducible refine wl_g ?_); first | go_big_want | go_skip | ((with_reducible refine wl_off (by kernel_rfl) ?_); (first | ((with_reducible refine fastK Tryd.prog rfl ?_); go_big_move) | (with_reducible refine fastN rfl ?_) | skip))) | ((with_reducible refine on_load ?_); (first | refine xl1 M ?_ | refine xlN M ?_); go_big_move) | ((with_reducible refine on_store ?_); (first | refine xs1 M ?_ | refine xsN M ?_); clear M; intro w' M; (try simp only [List.set_cons_zero, List.set_cons_succ] at M)) | ((with_reducible refine on_box ?_); refine xb M ?_; clear M; intro g w' M; go_big_move) | ((with_reducible refine on_alloc ?_); refine xa M ?_; clear M; intro g w' M; go_big_move)) | go_values | go_skip | go_guarded | go_step | go_upon))
                  have M2 := M.sub (rs := [ow 9 sV 1 _ _ (((([] : List (List UInt8)) ++ out.take k) ++ [s]) ++ out.drop k), bx gL 28 _]) (by (repeat (first | exact Takes.nil | exact Take.head | apply Take.tail | apply Takes.cons)); done)
                  have e : ((([] : List (List UInt8)) ++ out.take k) ++ [s]) ++ out.drop k = out.take k ++ s :: out.drop k := by simp
                  rw [e] at M2
                  exact ⟨⟨i + 1, _, _, _, by (first | rfl | (simp; done) | (simp; omega)), by go_num, by omega, by simp; omega, HN3, M2⟩, by simp [intOf]; omega⟩
            · have q5 : decide ((k : Int) < (out.length : Int)) = false := by simp; omega
              have hke : k = out.length := by omega
              have hput := Orph.put_at s out k (by omega) HB.out (fun x hx => by rw [List.getElem?_eq_none hkl] at hx; cases hx)
              have HN3 : Hid (Orph.gather (keepD v name) [] (names.take (i + 1)) = out.take k ++ s :: out.drop k) := Lib.hid (by rw [HN2.out, hput, if_neg (by rw [List.getElem?_eq_none hkl]; simp)])
              clear HB hput
              rcases M.form Pick.head with ⟨rfl, rfl, rfl⟩ | ⟨gO, rfl⟩
              · obtain rfl : k = 0 := by simpa using hke
                clear q5 hwk hke hk hkl
                have q5 : decide ((0 : Int) < 0) = false := rfl
                have M := M.nil_ 9 sV 1
                (try dsimp only); (repeat (first | (first | ((with_reducible refine on_append ?_); refine wp_appends M strE _ _ rfl rfl (by (repeat (first | exact Pick.head | apply Pick.tail)); done) (by first | with_reducible rfl | (simp; done) | (simp; omega)) ([] : List (List UInt8)) rfl (by first | with_reducible rfl | (simp; done) | (simp; omega)) (Row.zero (lo := 0) (hi := 0)) (by first | (intro h; cases h; done) | (intro _; rfl)) (fun _ => rfl) sV_one (by first | omega | (simp; done) | (simp; omega)) (by first | omega | (simp; done) | (simp; omega)) ?_; clear M; intro A' c' w' M; (first | ((with_reducible refine fastK Tryd.prog rfl ?_); go_big_move) | (with_reducible refine fastN rfl ?_) | skip)) | ((with_reducible refine on_single ?_); refine x1 M strE ?_; clear M; intro g w' M; go_big_move) | ((with_reducible refine on_append ?_); refine xap M strE s sV_len sV_one ?_; clear M; intro A' c' w' M; go_big_move) | ((with_reducible refine wl_g ?_); first | go_big_want | go_skip | ((with_reducible refine wl_off (by kernel_rfl) ?_); (first | ((with_reducible refine fastK Tryd.prog rfl ?_); go_big_move) | (with_reducible refine fastN rfl ?_) | skip))) | ((with_reducible refine on_load ?_); (first | refine xl1 M ?_ | refine xlN M ?_); go_big_move) | ((with_reducible refine on_store ?_); (first | refine xs1 M ?_ | refine xsN M ?_); clear M; intro w' M; (try simp only [List.set_cons_zero, List.set_cons_succ] at M)) | ((with_reducible refine on_box ?_); refine xb M ?_; clear M; intro g w' M; go_big_move) | ((with_reducible refine on_alloc ?_); refine xa M ?_; clear M; intro g w' M; go_big_move)) | go_values | go_skip | go_guarded | go_step | go_upon))
                have M2 := M.sub (rs := [ow 9 sV 1 _ _ (((([] : List (List UInt8)) ++ []) ++ [s]) ++ []), bx gL 28 _]) (by (repeat (first | exact Takes.nil | exact Take.head | apply Take.tail | apply Takes.cons)); done)
                exact ⟨⟨i + 1, [s], _, _, by (first | rfl | (simp; done) | (simp; omega)), by go_num, by omega, by simp, HN3, M2⟩, by simp [intOf]; omega⟩
              · have hcap := M.cap Pick.head
                have hkc2 : (k : Int) ≤ (c1 : Int) := by omega
                have hkc : k < c1 ∨ k = c1 := by omega
                rcases hkc with hkc | rfl
                all_goals
                  have M := M.nil_ 9 sV 1
                  have HKE := Lib.hid hke
                  have q5n : decide (k < out.length) = false := decide_eq_false (by omega)
                  have q5m : ¬ k < out.length := by omega
                  clear hke
                  (try dsimp only); (repeat (first | (first | ((with_reducible refine on_append ?_); refine wp_appends M strE _ _ rfl rfl (by (repeat (first | exact Pick.head | apply Pick.tail)); done) (by first | with_reducible rfl | (simp; done) | (simp; omega)) (out.take k) rfl (by first | with_reducible rfl | (simp; done) | (simp; omega)) (M.rowTake (xs := out) (by (repeat (first | exact Pick.head | apply Pick.tail)); done) hk) (by first | (intro h; cases h; done) | (intro _; rfl)) (fun _ => rfl) sV_one (by first | omega | (simp; done) | (simp; omega)) (by first | omega | (simp; done) | (simp; omega)) ?_; clear M; intro A' c' w' M; (first | ((with_reducible refine fastK Tryd.prog rfl ?_); go_big_move) | (with_reducible refine fastN rfl ?_) | skip)) | ((with_reducible refine on_append ?_); refine wp_appends M strE _ _ rfl rfl (by (repeat (first | exact Pick.head | apply Pick.tail)); done) (by first | with_reducible rfl | (simp; done) | (simp; omega)) ([] : List (List UInt8)) rfl (by first | with_reducible rfl | (simp; done) | (simp; omega)) (by first | exact Row.zero (lo := 0) (hi := 0) | (rw [show out.length - k = 0 by omega]; exact Row.zero (lo := 0) (hi := 0))) (by first | (intro h; cases h; done) | (intro _; rfl)) (fun _ => rfl) sV_one (by first | omega | (simp; done) | (simp; omega)) (by first | omega | (simp; done) | (simp; omega)) ?_; clear M; intro A' c' w' M; (first | ((with_reducible refine fastK Tryd.prog rfl ?_); go_big_move) | (with_reducible refine fastN rfl ?_) | skip)) | ((with_reducible refine on_single ?_); refine x1 M strE ?_; clear M; intro g w' M; go_big_move) | ((with_reducible refine on_append ?_); refine xap M strE s sV_len sV_one ?_; clear M; intro A' c' w' M; go_big_move) | ((with_reducible refine wl_g ?_); first | go_big_want | go_skip | ((with_reducible refine wl_off (by kernel_rfl) ?_); (first | ((with_reducible refine fastK Tryd.prog rfl ?_); go_big_move) | (with_reducible refine fastN rfl ?_) | skip))) | ((with_reducible refine on_load ?_); (first | refine xl1 M ?_ | refine xlN M ?_); go_big_move) | ((with_reducible refine on_store ?_); (first | refine xs1 M ?_ | refine xsN M ?_); clear M; intro w' M; (try simp only [List.set_cons_zero, List.set_cons_succ] at M)) | ((with_reducible refine on_box ?_); refine xb M ?_; clear M; intro g w' M; go_big_move) | ((with_reducible refine on_alloc ?_); refine xa M ?_; clear M; intro g w' M; go_big_move)) | go_values | go_skip | go_guarded | go_step | go_upon))
                  have M2 := M.sub (rs := [ow 9 sV 1 _ _ (((([] : List (List UInt8)) ++ out.take k) ++ [s]) ++ []), bx gL 28 _]) (by (repeat (first | exact Takes.nil | exact Take.head | apply Take.tail | apply Takes.cons)); done)
                  have e : ((([] : List (List UInt8)) ++ out.take k) ++ [s]) ++ [] = out.take k ++ s :: out.drop k := by rw [HKE.out]; simp
                  rw [e] at M2
                  have hke := HKE.out
                  exact ⟨⟨i + 1, _, _, _, by (first | rfl | (simp; done) | (simp; omega)), by go_num, by omega, by simp; omega, HN3, M2⟩, by simp [intOf]; omega⟩
    · have hie : i = names.length := by omega
      have hg := HG0.out
      rw [hie, List.take_length] at hg
      have q1 : decide ((i : Int) < (names.length : Int)) = false := by simp; omega
      have HE := Lib.hid hg
      clear hg hie
      (try dsimp only); (repeat (first | (first | ((with_reducible refine wl_g ?_); first | go_big_want | go_skip | ((with_reducible refine wl_off (by kernel_rfl) ?_); (first | ((with_reducible refine fastK Tryd.prog rfl ?_); go_big_move) | (with_reducible refine fastN rfl ?_) | skip))) | ((with_reducible refine on_load ?_); (first | refine xl1 M ?_ | refine xlN M ?_); go_big_move) | ((with_reducible refine on_store ?_); (first | refine xs1 M ?_ | refine xsN M ?_); clear M; intro w' M; (try simp only [List.set_cons_zero, List.set_cons_succ] at M)) | ((with_reducible refine on_box ?_); refine xb M ?_; clear M; intro g w' M; go_big_move) | ((with_reducible refine on_alloc ?_); refine xa M ?_; clear M; intro g w' M; go_big_move)) | go_values | go_skip | go_guarded | go_step | go_upon))
      refine ret_m1 rfl (Out.tmp rfl) rfl ⟨A, c1, ?_, ?_, M.ext_of⟩
      · rw [HE.out]; rfl
      · rw [HE.out]; exact M.own_new Pick.head
end Go.Proofs.YtmmaddmlfofgbaaDoor
