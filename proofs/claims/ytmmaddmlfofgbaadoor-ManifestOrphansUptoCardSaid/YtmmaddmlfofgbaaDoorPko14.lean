/- Parts of this work, one behind the other: OrphP. -/
import Derived.Deep.CutRange
import Derived.Test.YtmmaddmlfofgbaaDoorPko13
/- Orphans (layer 10): the program's (walk; printed by gen_orphp.py). -/
namespace Go.Proofs.YtmmaddmlfofgbaaDoor
set_option linter.unusedSimpArgs false
set_option linter.unusedVariables false
open Go.RowKit Res

theorem set_more {name : List UInt8} {L : List Nat} {n : Nat} (y : List UInt8) : (if y = tabT ++ hexDigs 16 n then true else decide (y = curT ∨ y = name ∨ ∃ m ∈ L, y = tabT ++ hexDigs 16 m)) = decide (y = curT ∨ y = name ∨ ∃ m ∈ L ++ [n], y = tabT ++ hexDigs 16 m) := by
  rw [Bool.eq_iff_iff]
  by_cases h : y = tabT ++ hexDigs 16 n
  · rw [if_pos h]
    simp only [decide_eq_true_eq, true_iff]
    exact .inr (.inr ⟨n, by simp, h⟩)
  · rw [if_neg h]
    simp only [decide_eq_true_eq, List.mem_append, List.mem_singleton]
    constructor
    · rintro (h1 | h1 | ⟨m, hm, h1⟩)
      · exact .inl h1
      · exact .inr (.inl h1)
      · exact .inr (.inr ⟨m, .inl hm, h1⟩)
    · rintro (h1 | h1 | ⟨m, hm | rfl, h1⟩)
      · exact .inl h1
      · exact .inr (.inl h1)
      · exact .inr (.inr ⟨m, hm, h1⟩)
      · exact absurd h1 h
theorem set_start {name y : List UInt8} {a b : List UInt8} (h : (a = curT ∧ b = name) ∨ (a = name ∧ b = curT)) : (if y = a then true else (if y = b then true else false)) = decide (y = curT ∨ y = name ∨ ∃ m ∈ ([] : List Nat), y = tabT ++ hexDigs 16 m) := by
  rw [Bool.eq_iff_iff]
  rcases h with ⟨rfl, rfl⟩ | ⟨rfl, rfl⟩
  · by_cases h1 : y = curT <;> by_cases h2 : y = b <;> simp [h1, h2]
  · by_cases h1 : y = a <;> by_cases h2 : y = curT <;> simp [h1, h2]
theorem Mem.part {S : Nat → Prop} {w0 w : World} {l : List Res} {F : Res → List Res} {g : Nat} {t : TypeId} {cs : List Value} (M : Mem S w0 l w) (q : Pick l (bx g t cs) F) (i : Nat) {ds : List Value} (hd : (cs.drop i).take ds.length = ds) : ∀ j u, ds[j]? = some u → w.cell? ⟨g, i + j, none⟩ = some u := fun j u hu => by
  have hj : j < ds.length := (List.getElem?_eq_some_iff.1 hu).1
  rw [← hd, List.getElem?_take_of_lt hj, List.getElem?_drop] at hu
  rw [(M.box q).cell]
  simpa using hu
theorem wp_indexI {P : Program} {o : Oper} {a : Act} {K : Act → World → Prop} {Q : Exit → Act → World → Prop} {w : World} {t : TypeId} {x y : Operand} {vx vy u : Value} (ho : o.op = .index t x y) (hx : a.eval x = vx) (hy : a.eval y = vy) (hr : (Instr.index t vx vy).run P w = .ok u w) (h : K (a.put o.dst u) w) : o.wp P a w K Q := by
  unfold Oper.wp execOp
  simp only [ho, hx, hy, Sem.run_bind, Sem.run_pure, Result.andThen_ok, hr]
  exact h
set_option maxRecDepth 100000 in
set_option maxHeartbeats 4000000 in
theorem orphans_prog (v : Live) (p : Place) (hv : ∀ n ∈ numsOf v, n < M64) (hl : ∀ k, k < 4 → (v.tab k).length ≤ 1099511627776) (name : List UInt8) (hname : name.length ≤ 140737488355328) (names : List (List UInt8)) (hn : names.length ≤ 1048576) (hs : ∀ s ∈ names, s.length ≤ 140737488355328) (b off c : Nat) (w : World) (ht : Tz w) (hE : Ev w) (hr : LiveAt w v p) (hc : ∀ i s, names[i]? = some s → w.cell? ⟨b, off + i, none⟩ = some (str s)) :
    Calls Tryd.prog 5 #[.agg (v.cells p), str name, .slice (some ⟨b, off, none⟩) names.length c] w fun e w' => ∃ A' c', e = .returned (.slice A' (Lib.compact ((names.filter (keepG v name)).mergeSort fun x y => decide (x ≤ y))).length c') ∧
      (Lib.compact ((names.filter (keepG v name)).mergeSort fun x y => decide (x ≤ y)) = [] ∨ ∃ g, A' = some ⟨g, 0, none⟩ ∧ ∀ i s, (Lib.compact ((names.filter (keepG v name)).mergeSort fun x y => decide (x ≤ y)))[i]? = some s → w'.cell? ⟨g, i, none⟩ = some (str s)) ∧ Ext w w' := by
  show Calls Tryd.prog 5 #[.agg #[.int .u64 v.next, .int .u64 v.seq, .int .u64 v.log, .slice (p.A 0) (v.tab 0).length (p.c 0), .slice (p.A 1) (v.tab 1).length (p.c 1), .slice (p.A 2) (v.tab 2).length (p.c 2), .slice (p.A 3) (v.tab 3).length (p.c 3)], str name, .slice (some ⟨b, off, none⟩) names.length c] w _
  have M := Mem.start w
  have HC := Lib.hid hc
  have HS := Lib.hid hs
  have HR := Lib.hid hr
  have HV := Lib.hid hv
  have HLV := Lib.hid hl
  have HTB : Hid (∀ n : Nat, n < M64 → ∀ w', Ext w w' → Calls Tryd.prog 9 #[.int .u64 n] w' fun e w'' => e = .returned (str (tabT ++ hexDigs 16 n)) ∧ Ext w' w'') := Lib.hid (fun n hn w' hX => tab_any n hn w' (ht.ext hX))
  have HLN : Hid (∀ s : List UInt8, s.length ≤ 140737488355328 → ∀ w', Ext w w' → Calls Tryd.prog 10 #[str s] w' fun e w'' => e = .returned (.tuple #[.int .u64 ((numbR logT s).1 : Int), .bool (numbR logT s).2]) ∧ Ext w' w'') := Lib.hid (fun s hs w' hX => log_number s hs w' (ht.ext hX) (hE.ext hX))
  clear hr hc hs hv ht hE hl
  go_enter Tryd.func5, Tryd.ntmps5
  (try dsimp only); (repeat (go_not_at_region 1; first | (first | ((with_reducible refine wl_g ?_); first | go_big_want | go_skip | ((with_reducible refine wl_off (by kernel_rfl) ?_); (first | ((with_reducible refine fastK Tryd.prog rfl ?_); go_big_move) | (with_reducible refine fastN rfl ?_) | skip))) | ((with_reducible refine on_load ?_); (first | refine xl1 M ?_ | refine xlN M ?_); go_big_move) | ((with_reducible refine on_store ?_); (first | refine xs1 M ?_ | refine xsN M ?_); clear M; intro w' M; (try simp only [List.set_cons_zero, List.set_cons_succ] at M)) | ((with_reducible refine on_box ?_); refine xb M ?_; clear M; intro g w' M; go_big_move) | ((with_reducible refine on_alloc ?_); refine xa M ?_; clear M; intro g w' M; go_big_move)) | go_values | go_skip | go_guarded | go_step | go_upon))
  obtain ⟨gL, hgL⟩ : ∃ x, x = g := ⟨_, rfl⟩
  subst hgL
  go_cut [7] from 17 to 19 (fun vv wx => ∃ bM, vv = .map (some bM) ∧ Mem (· < w.heap.size) w [sm Tryd.prog 9 4 bM (2) (fun y => decide (y = curT ∨ y = name ∨ ∃ n ∈ ([] : List Nat), y = tabT ++ hexDigs 16 n)), bx gL 28 [.int .u64 v.next, .int .u64 v.seq, .int .u64 v.log, .slice (p.A 0) (v.tab 0).length (p.c 0), .slice (p.A 1) (v.tab 1).length (p.c 1), .slice (p.A 2) (v.tab 2).length (p.c 2), .slice (p.A 3) (v.tab 3).length (p.c 3)]] wx)
  case first =>
    ((with_reducible refine on_region 1 ?_); refine wp_region_treeR M [] 6 [(2, true), (0, false)] (.fork 1 3 (Tr.pre [(3, false), (4, true), (5, true)] .done) (Tr.pre [(1, false), (4, true), (5, true)] .done)) (by kernel_rfl) (by kernel_rfl) (fun _ _ d _ _ h => by cases d <;> exact h) ?_; clear M; intro w' M; ((refine wpSch_q ?_ rfl rfl (fun w' hR => ?_) ?_); rotate_left; (focus (go_simp; first | rfl | rw [if_neg (by simp; omega)] | rw [if_neg (by omega)] | rw [if_pos (by omega)] | (rw [if_pos (by omega)]; simp; done))); (first | simp only [Act.put, List.setIfInBounds_toArray, List.set_cons_zero, List.set_cons_succ] | skip)); (refine wpSch_e rfl rfl (fun K hK => ?_); refine wp_mkmap M rfl Tryd.underlying40 ?_; intro bM w' hX M'; refine hK _ _ (fun _ => keepR.ext hX) ?_; replace M := M'; clear M' hX; clear hK K; (first | simp only [Act.put, List.setIfInBounds_toArray, List.set_cons_zero, List.set_cons_succ] | skip)); refine wpSch_nil ?_; refine treeQ_fork ?_ ?_; (focus ((iterate 2 (refine wpSch_e rfl rfl (fun K hK => ?_); refine wp_sput M _ _ _ (.inr rfl) Tryd.underlying40 Tryd.underlying9 Tryd.underlying4 (by (repeat (first | exact Pick.head | apply Pick.tail)); done) (by decide) rfl rfl rfl (by first | assumption | decide) ?_; intro w' hF M'; refine hK _ _ (fun _ => keepR.fr hF (by (repeat (first | exact OffB.nil | refine OffB.cons rfl (M.ne2 (by (repeat (first | exact Takes.nil | exact Take.head | apply Take.tail | apply Takes.cons)); done)) ?_)); done)) ?_; replace M := M'; clear M' hF; clear hK K; (first | simp only [Act.put, List.setIfInBounds_toArray, List.set_cons_zero, List.set_cons_succ] | skip))); (iterate 2 ((refine wpSch_q ?_ rfl rfl (fun w' hR => ?_) ?_); rotate_left; (focus (go_simp; first | rfl | rw [if_neg (by simp; omega)] | rw [if_neg (by omega)] | rw [if_pos (by omega)] | (rw [if_pos (by omega)]; simp; done))); (first | simp only [Act.put, List.setIfInBounds_toArray, List.set_cons_zero, List.set_cons_succ] | skip))); refine wpSch_nil ?_; refine treeQ_done ?_)); rotate_left 1; (focus ((iterate 2 (refine wpSch_e rfl rfl (fun K hK => ?_); refine wp_sput M _ _ _ (.inr rfl) Tryd.underlying40 Tryd.underlying9 Tryd.underlying4 (by (repeat (first | exact Pick.head | apply Pick.tail)); done) (by decide) rfl rfl rfl (by first | assumption | decide) ?_; intro w' hF M'; refine hK _ _ (fun _ => keepR.fr hF (by (repeat (first | exact OffB.nil | refine OffB.cons rfl (M.ne2 (by (repeat (first | exact Takes.nil | exact Take.head | apply Take.tail | apply Takes.cons)); done)) ?_)); done)) ?_; replace M := M'; clear M' hF; clear hK K; (first | simp only [Act.put, List.setIfInBounds_toArray, List.set_cons_zero, List.set_cons_succ] | skip))); (iterate 2 ((refine wpSch_q ?_ rfl rfl (fun w' hR => ?_) ?_); rotate_left; (focus (go_simp; first | rfl | rw [if_neg (by simp; omega)] | rw [if_neg (by omega)] | rw [if_pos (by omega)] | (rw [if_pos (by omega)]; simp; done))); (first | simp only [Act.put, List.setIfInBounds_toArray, List.set_cons_zero, List.set_cons_succ] | skip))); refine wpSch_nil ?_; refine treeQ_done ?_)); rotate_left 1)
    all_goals
      go_wp2
      go_meet
      exact ⟨_, rfl, M.conv Pick.head (fun y => set_start (by first | exact .inl ⟨rfl, rfl⟩ | exact .inr ⟨rfl, rfl⟩)) (Nat.le_refl _)⟩
  case rest =>
    clear M
    obtain ⟨bM, rfl, M⟩ := hcut
    (try dsimp only); (repeat (first | (first | ((with_reducible refine on_load ?_); refine xlR (M.part (g := gL) (by (repeat (first | exact Pick.head | apply Pick.tail)); done) 3 (ds := [.slice (p.A 0) (v.tab 0).length (p.c 0), .slice (p.A 1) (v.tab 1).length (p.c 1), .slice (p.A 2) (v.tab 2).length (p.c 2), .slice (p.A 3) (v.tab 3).length (p.c 3)]) rfl) ?_; go_big_move) | ((with_reducible refine wl_g ?_); first | go_big_want | go_skip | ((with_reducible refine wl_off (by kernel_rfl) ?_); (first | ((with_reducible refine fastK Tryd.prog rfl ?_); go_big_move) | (with_reducible refine fastN rfl ?_) | skip))) | ((with_reducible refine on_load ?_); (first | refine xl1 M ?_ | refine xlN M ?_); go_big_move) | ((with_reducible refine on_store ?_); (first | refine xs1 M ?_ | refine xsN M ?_); clear M; intro w' M; (try simp only [List.set_cons_zero, List.set_cons_succ] at M)) | ((with_reducible refine on_box ?_); refine xb M ?_; clear M; intro g w' M; go_big_move) | ((with_reducible refine on_alloc ?_); refine xa M ?_; clear M; intro g w' M; go_big_move)) | go_values | go_skip | go_guarded | go_step | go_upon))
    go_loopw [22] (fun x wr => ∃ k n : Nat, x = fj (k : Int) ∧ k ≤ 4 ∧ n ≤ 2 + (numsTo v k).length ∧ Mem (· < w.heap.size) w [sm Tryd.prog 9 4 bM (n) (fun y => decide (y = curT ∨ y = name ∨ ∃ n ∈ numsTo v k, y = tabT ++ hexDigs 16 n)), bx gL 28 [.int .u64 v.next, .int .u64 v.seq, .int .u64 v.log, .slice (p.A 0) (v.tab 0).length (p.c 0), .slice (p.A 1) (v.tab 1).length (p.c 1), .slice (p.A 2) (v.tab 2).length (p.c 2), .slice (p.A 3) (v.tab 3).length (p.c 3)]] wr) (fun x _ => 4 - (intOf x).toNat)
    · exact ⟨0, 2, rfl, by omega, by omega, M⟩
    · clear M
      obtain ⟨k, n, rfl, hk, hnn, M⟩ := hrel
      rcases Nat.lt_or_ge k 4 with hk4 | hk4
      · have q1 : decide ((k : Int) < 4) = true := by simp; omega
        have hwk : IntKind.i64.wrap ((k : Int) + 1) = (k : Int) + 1 := IntWalk.i64_in _ (by omega)
        have hlk := HLV.out k hk4
        have hlk2 : (numsTo v k).length ≤ 4398046511104 := numsTo_le v HLV.out k (by omega)
        (try dsimp only); (repeat (go_not_at_region 4; first | (first | ((with_reducible refine wl_g ?_); first | go_big_want | go_skip | ((with_reducible refine wl_off (by kernel_rfl) ?_); (first | ((with_reducible refine fastK Tryd.prog rfl ?_); go_big_move) | (with_reducible refine fastN rfl ?_) | skip))) | ((with_reducible refine on_load ?_); (first | refine xl1 M ?_ | refine xlN M ?_); go_big_move) | ((with_reducible refine on_store ?_); (first | refine xs1 M ?_ | refine xsN M ?_); clear M; intro w' M; (try simp only [List.set_cons_zero, List.set_cons_succ] at M)) | ((with_reducible refine on_box ?_); refine xb M ?_; clear M; intro g w' M; go_big_move) | ((with_reducible refine on_alloc ?_); refine xa M ?_; clear M; intro g w' M; go_big_move)) | go_values | go_skip | go_guarded | go_step | go_upon))
        go_cut [9] from 24 to 24 (fun vv wx => ∃ A cA, vv = .slice A (v.tab k).length cA ∧ Hid (A = p.A k) ∧ Mem (· < w.heap.size) w [sm Tryd.prog 9 4 bM (n) (fun y => decide (y = curT ∨ y = name ∨ ∃ n ∈ numsTo v k, y = tabT ++ hexDigs 16 n)), bx gL 28 [.int .u64 v.next, .int .u64 v.seq, .int .u64 v.log, .slice (p.A 0) (v.tab 0).length (p.c 0), .slice (p.A 1) (v.tab 1).length (p.c 1), .slice (p.A 2) (v.tab 2).length (p.c 2), .slice (p.A 3) (v.tab 3).length (p.c 3)]] wx)
        case first =>
          have h4 : k = 0 ∨ k = 1 ∨ k = 2 ∨ k = 3 := by omega
          clear hwk q1 hk hnn hk4 hlk hlk2
          have hI : ∀ w : World, (Instr.index 26 (.agg #[.slice (p.A 0) (v.tab 0).length (p.c 0), .slice (p.A 1) (v.tab 1).length (p.c 1), .slice (p.A 2) (v.tab 2).length (p.c 2), .slice (p.A 3) (v.tab 3).length (p.c 3)]) (fj (k : Int))).run Tryd.prog w = .ok (.slice (p.A k) (v.tab k).length (p.c k)) w := by
            intro w
            rcases h4 with rfl | rfl | rfl | rfl <;> kernel_rfl
          have HI := Lib.hid hI
          clear hI h4
          · (try dsimp only); (repeat (first | (first | ((with_reducible refine on_index ?_); refine wp_indexI rfl rfl rfl (HI.out _) ?_; (first | ((with_reducible refine fastK Tryd.prog rfl ?_); go_big_move) | (with_reducible refine fastN rfl ?_) | skip)) | ((with_reducible refine wl_g ?_); first | go_big_want | go_skip | ((with_reducible refine wl_off (by kernel_rfl) ?_); (first | ((with_reducible refine fastK Tryd.prog rfl ?_); go_big_move) | (with_reducible refine fastN rfl ?_) | skip))) | ((with_reducible refine on_load ?_); (first | refine xl1 M ?_ | refine xlN M ?_); go_big_move) | ((with_reducible refine on_store ?_); (first | refine xs1 M ?_ | refine xsN M ?_); clear M; intro w' M; (try simp only [List.set_cons_zero, List.set_cons_succ] at M)) | ((with_reducible refine on_box ?_); refine xb M ?_; clear M; intro g w' M; go_big_move) | ((with_reducible refine on_alloc ?_); refine xa M ?_; clear M; intro g w' M; go_big_move)) | go_values | go_skip | go_guarded | go_step | go_upon))
            go_meet
            exact ⟨_, _, rfl, Lib.hid rfl, M⟩
        case rest =>
          clear M
          obtain ⟨A, cA, rfl, HA, M⟩ := hcut
          (try dsimp only); (repeat (first | (first | ((with_reducible refine wl_g ?_); first | go_big_want | go_skip | ((with_reducible refine wl_off (by kernel_rfl) ?_); (first | ((with_reducible refine fastK Tryd.prog rfl ?_); go_big_move) | (with_reducible refine fastN rfl ?_) | skip))) | ((with_reducible refine on_load ?_); (first | refine xl1 M ?_ | refine xlN M ?_); go_big_move) | ((with_reducible refine on_store ?_); (first | refine xs1 M ?_ | refine xsN M ?_); clear M; intro w' M; (try simp only [List.set_cons_zero, List.set_cons_succ] at M)) | ((with_reducible refine on_box ?_); refine xb M ?_; clear M; intro g w' M; go_big_move) | ((with_reducible refine on_alloc ?_); refine xa M ?_; clear M; intro g w' M; go_big_move)) | go_values | go_skip | go_guarded | go_step | go_upon))
          go_loopw [27] (fun x wr => ∃ i m : Nat, x = fj (i : Int) ∧ i ≤ (v.tab k).length ∧ m ≤ 2 + (numsTo v k).length + i ∧ Mem (· < w.heap.size) w [sm Tryd.prog 9 4 bM (m) (fun y => decide (y = curT ∨ y = name ∨ ∃ n ∈ numsTo v k ++ ((v.tab k).take i).map Table.num, y = tabT ++ hexDigs 16 n)), bx gL 28 [.int .u64 v.next, .int .u64 v.seq, .int .u64 v.log, .slice (p.A 0) (v.tab 0).length (p.c 0), .slice (p.A 1) (v.tab 1).length (p.c 1), .slice (p.A 2) (v.tab 2).length (p.c 2), .slice (p.A 3) (v.tab 3).length (p.c 3)]] wr) (fun x _ => (v.tab k).length - (intOf x).toNat)
          · refine ⟨0, n, rfl, by omega, by omega, ?_⟩
            rw [List.take_zero, List.map_nil, List.append_nil]
            exact M
          · clear M
            obtain ⟨i, m, rfl, hi, hm, M⟩ := hrel
            have hwi : IntKind.i64.wrap ((i : Int) + 1) = (i : Int) + 1 := IntWalk.i64_in _ (by omega)
            rcases Nat.lt_or_ge i (v.tab k).length with hlt | hge
            · have q2 : decide ((i : Int) < ((v.tab k).length : Int)) = true := by simp; omega
              obtain ⟨T, hT⟩ : ∃ T, (v.tab k)[i]? = some T := ⟨_, List.getElem?_eq_getElem hlt⟩
              have hrow := HR.out k hk4
              rw [← HA.out] at hrow
              obtain ⟨b1, o1, rfl, -, hbw, hcT⟩ := hrow.elem Table.cells_len rfl hT
              have hT64 := HV.out T.num (mem_numsOf.2 ⟨k, hk4, T, List.mem_of_getElem? hT, rfl⟩)
              have HTK : Hid (numsTo v k ++ ((v.tab k).take (i + 1)).map Table.num = (numsTo v k ++ ((v.tab k).take i).map Table.num) ++ [T.num]) := Lib.hid (by
                rw [List.take_add_one, hT]
                simp)
              obtain ⟨n1, l1, s1, c1, a1, g1⟩ := T
              dsimp only at hT64 HTK
              have C1 := Lib.hid hcT
              have HT1 := Lib.hid (fun w' hX => HTB.out n1 hT64 w' hX)
              obtain ⟨tn, htn⟩ : ∃ z, tabT ++ hexDigs 16 n1 = z := ⟨_, rfl⟩
              rw [htn] at HT1
              have htl : tn.length ≤ 140737488355328 := by rw [← htn, List.length_append, hexDigs_length]; decide
              have HTN := Lib.hid htn
              clear hrow hcT hT htn hT64
              (try dsimp only); (repeat (first | (first | ((with_reducible refine on_load ?_); refine xlR (fun j u (hu : [Value.int .u64 (n1 : Int), .int .i64 l1, .int .i64 s1, .int .i64 c1, str a1, str g1][j]? = some u) => M.far (C1.out j u hu)) ?_; go_big_move) | (go_at_call 9; (with_reducible refine (HT1.out _ M.ext_of).mono ?_); rintro _ w1 ⟨rfl, hX⟩; replace M := M.ext hX; clear hX; dsimp only) | ((with_reducible refine on_mapUpdate ?_); refine wp_sput M _ _ _ (.inl rfl) Tryd.underlying40 Tryd.underlying9 Tryd.underlying4 (by (repeat (first | exact Pick.head | apply Pick.tail)); done) (by omega) rfl rfl rfl (by assumption) ?_; intro w' hF M'; clear hF; replace M := M'; clear M'; (first | ((with_reducible refine fastK Tryd.prog rfl ?_); go_big_move) | (with_reducible refine fastN rfl ?_) | skip)) | ((with_reducible refine wl_g ?_); first | go_big_want | go_skip | ((with_reducible refine wl_off (by kernel_rfl) ?_); (first | ((with_reducible refine fastK Tryd.prog rfl ?_); go_big_move) | (with_reducible refine fastN rfl ?_) | skip))) | ((with_reducible refine on_load ?_); (first | refine xl1 M ?_ | refine xlN M ?_); go_big_move) | ((with_reducible refine on_store ?_); (first | refine xs1 M ?_ | refine xsN M ?_); clear M; intro w' M; (try simp only [List.set_cons_zero, List.set_cons_succ] at M)) | ((with_reducible refine on_box ?_); refine xb M ?_; clear M; intro g w' M; go_big_move) | ((with_reducible refine on_alloc ?_); refine xa M ?_; clear M; intro g w' M; go_big_move)) | go_values | go_skip | go_guarded | go_step | go_upon))
              have M2 := M.sub (rs := [sm Tryd.prog 9 4 bM (m + 1) (fun y => if y = tn then true else decide (y = curT ∨ y = name ∨ ∃ n ∈ numsTo v k ++ ((v.tab k).take i).map Table.num, y = tabT ++ hexDigs 16 n)), bx gL 28 [.int .u64 v.next, .int .u64 v.seq, .int .u64 v.log, .slice (p.A 0) (v.tab 0).length (p.c 0), .slice (p.A 1) (v.tab 1).length (p.c 1), .slice (p.A 2) (v.tab 2).length (p.c 2), .slice (p.A 3) (v.tab 3).length (p.c 3)]]) (by (repeat (first | exact Takes.nil | exact Take.head | apply Take.tail | apply Takes.cons)); done)
              have M3 := M2.conv (f' := fun y => decide (y = curT ∨ y = name ∨ ∃ n ∈ numsTo v k ++ ((v.tab k).take (i + 1)).map Table.num, y = tabT ++ hexDigs 16 n)) Pick.head (fun y => by rw [HTK.out, ← HTN.out]; exact set_more y) (Nat.le_refl _)
              exact ⟨⟨i + 1, m + 1, by go_num, by omega, by omega, M3⟩, by simp [intOf]; omega⟩
            · have q2 : decide ((i : Int) < ((v.tab k).length : Int)) = false := by simp; omega
              have q2n : decide (i < (v.tab k).length) = false := decide_eq_false (by omega)
              have q2m : ¬ i < (v.tab k).length := by omega
              have HIE : Hid (numsTo v k ++ ((v.tab k).take i).map Table.num = numsTo v (k + 1)) := Lib.hid (by
                rw [List.take_of_length_le hge, numsTo_succ])
              have HLN2 : Hid (m ≤ 2 + (numsTo v (k + 1)).length) := Lib.hid (by rw [numsTo_succ, List.length_append, List.length_map]; omega)
              rw [HIE.out] at M
              clear hge
              (try dsimp only); (repeat (first | (first | ((with_reducible refine wl_g ?_); first | go_big_want | go_skip | ((with_reducible refine wl_off (by kernel_rfl) ?_); (first | ((with_reducible refine fastK Tryd.prog rfl ?_); go_big_move) | (with_reducible refine fastN rfl ?_) | skip))) | ((with_reducible refine on_load ?_); (first | refine xl1 M ?_ | refine xlN M ?_); go_big_move) | ((with_reducible refine on_store ?_); (first | refine xs1 M ?_ | refine xsN M ?_); clear M; intro w' M; (try simp only [List.set_cons_zero, List.set_cons_succ] at M)) | ((with_reducible refine on_box ?_); refine xb M ?_; clear M; intro g w' M; go_big_move) | ((with_reducible refine on_alloc ?_); refine xa M ?_; clear M; intro g w' M; go_big_move)) | go_values | go_skip | go_guarded | go_step | go_upon))
              exact ⟨⟨k + 1, m, by go_num, by omega, HLN2.out, M⟩, by simp [intOf]; omega⟩
      · have q1 : decide ((k : Int) < 4) = false := by simp; omega
        obtain rfl : k = 4 := by omega
        clear hk hk4 q1
        replace M := (M.conv (f' := liveSet v name) Pick.head (fun y => rfl) (Nat.le_refl _)).nil_ 9 sV 1
        have q1 : decide (((4 : Nat) : Int) < 4) = false := rfl
        (try dsimp only); (repeat (first | (first | ((with_reducible refine wl_g ?_); first | go_big_want | go_skip | ((with_reducible refine wl_off (by kernel_rfl) ?_); (first | ((with_reducible refine fastK Tryd.prog rfl ?_); go_big_move) | (with_reducible refine fastN rfl ?_) | skip))) | ((with_reducible refine on_load ?_); (first | refine xl1 M ?_ | refine xlN M ?_); go_big_move) | ((with_reducible refine on_store ?_); (first | refine xs1 M ?_ | refine xsN M ?_); clear M; intro w' M; (try simp only [List.set_cons_zero, List.set_cons_succ] at M)) | ((with_reducible refine on_box ?_); refine xb M ?_; clear M; intro g w' M; go_big_move) | ((with_reducible refine on_alloc ?_); refine xa M ?_; clear M; intro g w' M; go_big_move)) | go_values | go_skip | go_guarded | go_step | go_upon))
        go_loopw [12, 39] (fun x y wr => ∃ (i : Nat) (out : List (List UInt8)) (A : Option Addr) (c1 : Nat), x = .slice A out.length c1 ∧ y = fj (i : Int) ∧ i ≤ names.length ∧ out.length ≤ i ∧ Hid ((names.take i).filter (keepG v name) = out) ∧ Mem (· < w.heap.size) w [ow 9 sV 1 A c1 out, sm Tryd.prog 9 4 bM (n) (liveSet v name), bx gL 28 [.int .u64 v.next, .int .u64 v.seq, .int .u64 v.log, .slice (p.A 0) (v.tab 0).length (p.c 0), .slice (p.A 1) (v.tab 1).length (p.c 1), .slice (p.A 2) (v.tab 2).length (p.c 2), .slice (p.A 3) (v.tab 3).length (p.c 3)]] wr) (fun _ y _ => names.length - (intOf y).toNat)
        · exact ⟨0, [], none, 0, rfl, rfl, by omega, by simp, Lib.hid rfl, M⟩
        · clear M
          obtain ⟨i, out, A, c1, rfl, rfl, hi, ho, HF, M⟩ := hrel
          rcases Nat.lt_or_ge i names.length with hlt | hge
          · have q2 : decide ((i : Int) < (names.length : Int)) = true := by simp; omega
            have hwi : IntKind.i64.wrap ((i : Int) + 1) = (i : Int) + 1 := IntWalk.i64_in _ (by omega)
            obtain ⟨s, hsi⟩ : ∃ s, names[i]? = some s := ⟨_, List.getElem?_eq_getElem hlt⟩
            have C0 := Lib.hid (HC.out i s hsi)
            have hsl := HS.out s (List.mem_of_getElem? hsi)
            have HN : Hid ((names.take (i + 1)).filter (keepG v name) = out ++ (if keepG v name s then [s] else [])) := Lib.hid (by
              rw [List.take_add_one, hsi]
              show ((names.take i) ++ [s]).filter _ = _
              rw [List.filter_append, HF.out]
              congr 1
              by_cases h : keepG v name s = true
              · rw [if_pos h, List.filter_cons, if_pos h, List.filter_nil]
              · rw [if_neg h, List.filter_cons, if_neg h, List.filter_nil])
            have HK : Hid (keepG v name s = (!liveSet v name s && (!(numbR logT s).2 || decide ((numbR logT s).1 < v.log)))) := Lib.hid rfl
            have HG := Lib.hid (HLN.out s hsl)
            clear hsi
            generalize numbR logT s = rl at HK HG
            obtain ⟨ln, lb⟩ := rl
            dsimp only at HK HG
            (try dsimp only); (repeat (go_not_at_region 16; first | (first | ((with_reducible refine on_load ?_); refine xlC (M.far C0.out) ?_; go_big_move) | (go_at_call 10; (with_reducible refine (HG.out _ M.ext_of).mono ?_); rintro _ w1 ⟨rfl, hX⟩; replace M := M.ext hX; clear hX; dsimp only) | ((with_reducible refine wl_g ?_); first | go_big_want | go_skip | ((with_reducible refine wl_off (by kernel_rfl) ?_); (first | ((with_reducible refine fastK Tryd.prog rfl ?_); go_big_move) | (with_reducible refine fastN rfl ?_) | skip))) | ((with_reducible refine on_load ?_); (first | refine xl1 M ?_ | refine xlN M ?_); go_big_move) | ((with_reducible refine on_store ?_); (first | refine xs1 M ?_ | refine xsN M ?_); clear M; intro w' M; (try simp only [List.set_cons_zero, List.set_cons_succ] at M)) | ((with_reducible refine on_box ?_); refine xb M ?_; clear M; intro g w' M; go_big_move) | ((with_reducible refine on_alloc ?_); refine xa M ?_; clear M; intro g w' M; go_big_move)) | go_values | go_skip | go_guarded | go_step | go_upon))
            go_cut [61] from 48 to 61 (fun vv wx => vv = .bool (keepG v name s) ∧ Mem (· < w.heap.size) w [ow 9 sV 1 A c1 out, sm Tryd.prog 9 4 bM (n) (liveSet v name), bx gL 28 [.int .u64 v.next, .int .u64 v.seq, .int .u64 v.log, .slice (p.A 0) (v.tab 0).length (p.c 0), .slice (p.A 1) (v.tab 1).length (p.c 1), .slice (p.A 2) (v.tab 2).length (p.c 2), .slice (p.A 3) (v.tab 3).length (p.c 3)]] wx)
            case first =>
              obtain ⟨lv, hlv⟩ : ∃ lv, liveSet v name s = lv := ⟨_, rfl⟩
              obtain ⟨lt, hlt2⟩ : ∃ lt, decide (ln < v.log) = lt := ⟨_, rfl⟩
              have g2 : decide ((ln : Int) < (v.log : Int)) = lt := by rw [← hlt2, decide_eq_decide]; omega
              rw [hlv, hlt2] at HK
              have HLV2 := Lib.hid hlv
              have G1 := Lib.hid hlt2
              clear C0 HC HS HN HF HG hlv hlt2
              cases lv <;> cases lb <;> cases lt
              all_goals
                have HKc := HK
                simp only [Bool.and_true, Bool.and_false, Bool.true_and, Bool.false_and, Bool.or_true, Bool.or_false, Bool.true_or, Bool.false_or, Bool.not_true, Bool.not_false] at HKc
                (try dsimp only); (repeat (first | (first | ((with_reducible refine on_lookup ?_); refine wp_sget M _ _ rfl Tryd.underlying40 Tryd.underlying9 Tryd.underlying4 (by intro w; first | rfl | (simp [go_sem]; done) | (simp [go_sem]; rfl)) (by (repeat (first | exact Pick.head | apply Pick.tail)); done) rfl rfl (by assumption) ?_; rw [HLV2.out]; (first | ((with_reducible refine fastK Tryd.prog rfl ?_); go_big_move) | (with_reducible refine fastN rfl ?_) | skip)) | ((with_reducible refine wl_g ?_); first | go_big_want | go_skip | ((with_reducible refine wl_off (by kernel_rfl) ?_); (first | ((with_reducible refine fastK Tryd.prog rfl ?_); go_big_move) | (with_reducible refine fastN rfl ?_) | skip))) | ((with_reducible refine on_load ?_); (first | refine xl1 M ?_ | refine xlN M ?_); go_big_move) | ((with_reducible refine on_store ?_); (first | refine xs1 M ?_ | refine xsN M ?_); clear M; intro w' M; (try simp only [List.set_cons_zero, List.set_cons_succ] at M)) | ((with_reducible refine on_box ?_); refine xb M ?_; clear M; intro g w' M; go_big_move) | ((with_reducible refine on_alloc ?_); refine xa M ?_; clear M; intro g w' M; go_big_move)) | go_values | go_skip | go_guarded | go_step | go_upon))
                go_meet
                exact ⟨by first | (rw [HKc.out]; done) | (rw [HKc.out]; rfl) | (rw [HKc.out, G1.out]; done) | (rw [HKc.out, G1.out]; rfl), M⟩
            case rest =>
              clear M
              obtain ⟨rfl, M⟩ := hcut
              obtain ⟨kb, hkb⟩ : ∃ kb, keepG v name s = kb := ⟨_, rfl⟩
              rw [hkb] at HN
              rw [hkb]
              clear HK HG hkb
              cases kb with
              | false =>
                have HN2 : Hid ((names.take (i + 1)).filter (keepG v name) = out) := Lib.hid (by rw [HN.out]; simp)
                (try dsimp only); (repeat (first | (first | ((with_reducible refine wl_g ?_); first | go_big_want | go_skip | ((with_reducible refine wl_off (by kernel_rfl) ?_); (first | ((with_reducible refine fastK Tryd.prog rfl ?_); go_big_move) | (with_reducible refine fastN rfl ?_) | skip))) | ((with_reducible refine on_load ?_); (first | refine xl1 M ?_ | refine xlN M ?_); go_big_move) | ((with_reducible refine on_store ?_); (first | refine xs1 M ?_ | refine xsN M ?_); clear M; intro w' M; (try simp only [List.set_cons_zero, List.set_cons_succ] at M)) | ((with_reducible refine on_box ?_); refine xb M ?_; clear M; intro g w' M; go_big_move) | ((with_reducible refine on_alloc ?_); refine xa M ?_; clear M; intro g w' M; go_big_move)) | go_values | go_skip | go_guarded | go_step | go_upon))
                exact ⟨⟨i + 1, out, A, c1, rfl, by go_num, by omega, by omega, HN2, M⟩, by simp [intOf]; omega⟩
              | true =>
                have HN2 : Hid ((names.take (i + 1)).filter (keepG v name) = out ++ [s]) := Lib.hid (by rw [HN.out]; simp)
                (try dsimp only); (repeat (first | (first | ((with_reducible refine on_single ?_); refine x1 M strE ?_; clear M; intro g w' M; go_big_move) | ((with_reducible refine on_append ?_); refine xap M strE s sV_len sV_one ?_; clear M; intro A' c' w' M; go_big_move) | ((with_reducible refine wl_g ?_); first | go_big_want | go_skip | ((with_reducible refine wl_off (by kernel_rfl) ?_); (first | ((with_reducible refine fastK Tryd.prog rfl ?_); go_big_move) | (with_reducible refine fastN rfl ?_) | skip))) | ((with_reducible refine on_load ?_); (first | refine xl1 M ?_ | refine xlN M ?_); go_big_move) | ((with_reducible refine on_store ?_); (first | refine xs1 M ?_ | refine xsN M ?_); clear M; intro w' M; (try simp only [List.set_cons_zero, List.set_cons_succ] at M)) | ((with_reducible refine on_box ?_); refine xb M ?_; clear M; intro g w' M; go_big_move) | ((with_reducible refine on_alloc ?_); refine xa M ?_; clear M; intro g w' M; go_big_move)) | go_values | go_skip | go_guarded | go_step | go_upon))
                have M2 := M.sub (rs := [ow 9 sV 1 _ _ (out ++ [s]), sm Tryd.prog 9 4 bM (n) (liveSet v name), bx gL 28 [.int .u64 v.next, .int .u64 v.seq, .int .u64 v.log, .slice (p.A 0) (v.tab 0).length (p.c 0), .slice (p.A 1) (v.tab 1).length (p.c 1), .slice (p.A 2) (v.tab 2).length (p.c 2), .slice (p.A 3) (v.tab 3).length (p.c 3)]]) (by (repeat (first | exact Takes.nil | exact Take.head | apply Take.tail | apply Takes.cons)); done)
                exact ⟨⟨i + 1, out ++ [s], _, _, by simp, by go_num, by omega, by simp; omega, HN2, M2⟩, by simp [intOf]; omega⟩
          · have q2 : decide ((i : Int) < (names.length : Int)) = false := by simp; omega
            have hie : i = names.length := by omega
            have hf := HF.out
            rw [hie, List.take_length] at hf
            have HE := Lib.hid hf
            clear hf hie
            have hol : out.length ≤ 1048576 := by omega
            rcases M.form Pick.head with ⟨rfl, rfl, rfl⟩ | ⟨gO, rfl⟩
            · (try dsimp only); (repeat (first | (first | (go_at_call 11; refine (Tryd.slices_Sort_string_none none 0 _).mono ?_; rintro _ w1 ⟨rfl, rfl⟩; dsimp only) | (go_at_call 12; refine (Tryd.slices_Compact_string_empty none 0 _).mono ?_; rintro _ w1 ⟨rfl, rfl⟩; dsimp only) | ((with_reducible refine wl_g ?_); first | go_big_want | go_skip | ((with_reducible refine wl_off (by kernel_rfl) ?_); (first | ((with_reducible refine fastK Tryd.prog rfl ?_); go_big_move) | (with_reducible refine fastN rfl ?_) | skip))) | ((with_reducible refine on_load ?_); (first | refine xl1 M ?_ | refine xlN M ?_); go_big_move) | ((with_reducible refine on_store ?_); (first | refine xs1 M ?_ | refine xsN M ?_); clear M; intro w' M; (try simp only [List.set_cons_zero, List.set_cons_succ] at M)) | ((with_reducible refine on_box ?_); refine xb M ?_; clear M; intro g w' M; go_big_move) | ((with_reducible refine on_alloc ?_); refine xa M ?_; clear M; intro g w' M; go_big_move)) | go_values | go_skip | go_guarded | go_step | go_upon))
              have HL : Hid (Lib.compact ((names.filter (keepG v name)).mergeSort fun x y => decide (x ≤ y)) = []) := Lib.hid (by rw [HE.out, List.mergeSort_nil]; rfl)
              refine ret_m1 rfl (Out.tmp rfl) rfl ⟨none, 0, ?_, .inl HL.out, M.ext_of⟩
              rw [HL.out]
              rfl
            · (try dsimp only); (repeat (first | (first | (go_at_call 11; refine (sort_mem M Pick.head (by omega)).mono ?_; rintro _ w1 ⟨rfl, M'⟩; replace M := M'; clear M'; dsimp only) | (go_at_call 12; refine (compact_mem M Pick.head (by rw [List.length_mergeSort]; omega) (by rw [List.length_mergeSort])).mono ?_; rintro _ w1 ⟨rfl, zs, M'⟩; replace M := M'; clear M'; dsimp only) | ((with_reducible refine wl_g ?_); first | go_big_want | go_skip | ((with_reducible refine wl_off (by kernel_rfl) ?_); (first | ((with_reducible refine fastK Tryd.prog rfl ?_); go_big_move) | (with_reducible refine fastN rfl ?_) | skip))) | ((with_reducible refine on_load ?_); (first | refine xl1 M ?_ | refine xlN M ?_); go_big_move) | ((with_reducible refine on_store ?_); (first | refine xs1 M ?_ | refine xsN M ?_); clear M; intro w' M; (try simp only [List.set_cons_zero, List.set_cons_succ] at M)) | ((with_reducible refine on_box ?_); refine xb M ?_; clear M; intro g w' M; go_big_move) | ((with_reducible refine on_alloc ?_); refine xa M ?_; clear M; intro g w' M; go_big_move)) | go_values | go_skip | go_guarded | go_step | go_upon))
              refine ret_m1 rfl (Out.tmp rfl) rfl ⟨some ⟨gO, 0, none⟩, c1, ?_, .inr ⟨gO, rfl, fun j s hj => M.cell1 Pick.head ?_⟩, M.ext_of⟩
              · rw [HE.out]
                rfl
              · rw [HE.out] at hj
                rw [List.getElem?_append_left (List.getElem?_eq_some_iff.1 hj).1]
                exact hj
end Go.Proofs.YtmmaddmlfofgbaaDoor
