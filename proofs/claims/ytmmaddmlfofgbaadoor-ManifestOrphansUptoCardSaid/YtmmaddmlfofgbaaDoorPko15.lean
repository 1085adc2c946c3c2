/- Parts of this work, one behind the other: ManOrph0. -/
import Derived.Test.YtmmaddmlfofgbaaDoorPko14
import Derived.Test.YtmmaddmlfofgbaaDoorPko11
/- The law ManifestOrphans, walked. -/
namespace Go.Proofs.YtmmaddmlfofgbaaDoor
set_option linter.unusedSimpArgs false
set_option linter.unusedVariables false
open Go.RowKit Res

section
variable {P : Program} {S : Nat → Prop} {w0 w : World} {l : List Res} {o : Oper} {a : Act} {K : Act → World → Prop} {Q : Exit → Act → World → Prop} {dst : Option Tmp} {t e ty : TypeId} {x y : Operand} {pos : String} {after : Array Edge} {gd : Option (Nat × Bool)} {T : Array TypeId}
theorem on_call_copy (h : (Oper.mk dst (.call ⟨.builtin .copy, #[x, y], T⟩) ty pos after gd).wp P a w K Q) : (Oper.mk dst (.call ⟨.builtin .copy, #[x, y], T⟩) ty pos after gd).wp P a w K Q := h
theorem wp_copyB {bytes g : Nat} {cs : List Value} {f : Res → List Res} (M : Mem S w0 l w) (p : Pick l (bx g e cs) f) (E : ElemOf P t e 1 bytes) (d s : Operand) (ho : o.op = .call { callee := .builtin .copy, args := #[d, s], argTypes := #[t, t] }) {dn dc b soff sn sc : Nat}
    (hd : a.eval d = .slice (some ⟨g, 0, none⟩) dn dc) (hs : a.eval s = .slice (some ⟨b, soff, none⟩) sn sc) {xs : List Value} (hdn : dn = xs.length) (hsn : sn = xs.length) (hcs : cs.length = xs.length) (hsrc : ∀ j u, xs[j]? = some u → w.cell? ⟨b, soff + j, none⟩ = some u) (h1 : ∀ u ∈ xs, u.oneCell' = true)
    (h : ∀ w', Mem S w0 (f (bx g e xs)) w' → K (a.put o.dst (goInt xs.length)) w') : o.wp P a w K Q := by
  subst hdn hsn
  refine wp_copy_at E d s ho hd hs (n := xs.length) (Nat.min_self _) (by rw [Nat.mul_one]) hsrc (M.box p) (by simp [hcs]) h1 fun w' hw hg => h w' (M.put p (Fr.of_grown hg fun k ek _ hk => hk (by injection ek with ek; exact ek.symm)) (bx g e xs) ?_ fun _ h => .inl h)
  show Box w' g e xs.toArray
  unfold Box
  rw [hw]
  congr 2
  simp [hcs]
end
/-- a row's cells -/
def CellsAt (w : World) (A : Option Addr) (l : List (List UInt8)) : Prop := l = [] ∨ ∃ b off, A = some ⟨b, off, none⟩ ∧ ∀ i s, l[i]? = some s → w.cell? ⟨b, off + i, none⟩ = some (str s)
theorem CellsAt.ext {w w' : World} {A : Option Addr} {l : List (List UInt8)} (h : CellsAt w A l) (hX : Ext w w') : CellsAt w' A l := by
  rcases h with h | ⟨b, off, e, h⟩
  · exact .inl h
  · exact .inr ⟨b, off, e, fun i s hi => (hX.cell (p := ⟨b, off + i, none⟩) (block_lt_of_cell (h i s hi))).trans (h i s hi)⟩
theorem sameT_any (l : List (List UInt8)) (hl : l.length ≤ 140737488355328) (A A' : Option Addr) (c c' : Nat) (w : World) (h1 : CellsAt w A l) (h2 : CellsAt w A' l) : Calls Tryd.prog 7 #[.slice A l.length c, .slice A' l.length c'] w fun e w' => e = .returned (.bool true) ∧ Ext w w' := by
  rcases h1 with rfl | ⟨b, off, rfl, h1⟩
  · exact sameT_none A A' c c' w
  · rcases h2 with rfl | ⟨b', off', rfl, h2⟩
    · exact sameT_none _ A' c c' w
    · exact sameT_some l hl b off b' off' c c' w h1 h2
theorem wp_copy0 {P : Program} {w : World} {o : Oper} {a : Act} {K : Act → World → Prop} {Q : Exit → Act → World → Prop} {t e : TypeId} {bytes g : Nat} (E : ElemOf P t e 1 bytes) (d s : Operand) (ho : o.op = .call { callee := .builtin .copy, args := #[d, s], argTypes := #[t, t] }) {dc sc dn sn : Nat} {B : Option Addr}
    (hd : a.eval d = .slice (some ⟨g, 0, none⟩) dn dc) (hs : a.eval s = .slice B sn sc) (hdn : dn = 0) (hsn : sn = 0) (h : K (a.put o.dst (goInt 0)) w) : o.wp P a w K Q := by
  subst hdn hsn
  obtain ⟨i, z, hi', hz, hsz, hby, hzs⟩ := E.info
  have hrun : (Builtin.copy_ #[t, t] o.type #[.slice (some ⟨g, 0, none⟩) 0 dc, .slice B 0 sc]).run P w = .ok (goInt 0) w := by
    cases B <;> simp [Builtin.copy_, run_underlying E.under, Builtin.lenOf, sizeOf, typeInfo, hi', hsz, Builtin.firstCells, loadCells, storeCells, go_sem, loadCellsFrom] <;> (try rfl)
  unfold Oper.wp
  simp [execOp, ho, resolve, invoke, builtin, hd, hs, hrun, Result.andThen]
  exact h
theorem Mem.strs {S : Nat → Prop} {w0 w : World} {l : List Res} {F : Res → List Res} {g : Nat} {e : TypeId} {names : List (List UInt8)} (M : Mem S w0 l w) (q : Pick l (bx g e (names.map str)) F) : ∀ i s, names[i]? = some s → w.cell? ⟨g, 0 + i, none⟩ = some (str s) := fun i s hi => by
  rw [Nat.zero_add, (M.box q).cell]
  simp [hi]
theorem orphans_both (v : Live) (hv : ∀ n ∈ numsOf v, n < M64) (name : List UInt8) (names : List (List UInt8)) : Lib.compact ((names.filter (keepG v name)).mergeSort fun x y => decide (x ≤ y)) = Orph.gather (keepD v name) [] names := by
  have e : keepD v name = keepG v name := funext fun s => (keep_same hv name s).symm
  rw [e]
  exact Orph.orphans_same (keepG v name) names
set_option maxRecDepth 100000 in
set_option maxHeartbeats 800000 in
theorem orphans_ref_nil (v : Live) (p : Place) (name : List UInt8) (A : Option Addr) (c : Nat) (w : World) : Calls Tryd.prog 6 #[.agg #[.int .u64 v.next, .int .u64 v.seq, .int .u64 v.log, .slice (p.A 0) (v.tab 0).length (p.c 0), .slice (p.A 1) (v.tab 1).length (p.c 1), .slice (p.A 2) (v.tab 2).length (p.c 2), .slice (p.A 3) (v.tab 3).length (p.c 3)], str name, .slice A 0 c] w fun e w' => e = .returned (.slice none 0 0) ∧ Ext w w' := by
  have M := Mem.start w
  go_enter Tryd.func6, Tryd.ntmps6
  (try dsimp only); (repeat (first | (first | ((with_reducible refine wl_g ?_); first | go_big_want | go_skip | ((with_reducible refine wl_off (by kernel_rfl) ?_); (first | ((with_reducible refine fastK Tryd.prog rfl ?_); go_big_move) | (with_reducible refine fastN rfl ?_) | skip))) | ((with_reducible refine on_load ?_); (first | refine xl1 M ?_ | refine xlN M ?_); go_big_move) | ((with_reducible refine on_store ?_); (first | refine xs1 M ?_ | refine xsN M ?_); clear M; intro w' M; (try simp only [List.set_cons_zero, List.set_cons_succ] at M)) | ((with_reducible refine on_box ?_); refine xb M ?_; clear M; intro g w' M; go_big_move) | ((with_reducible refine on_alloc ?_); refine xa M ?_; clear M; intro g w' M; go_big_move)) | go_values | go_skip | go_guarded | go_step | go_upon))
  obtain ⟨gL, hgL⟩ : ∃ x, x = g := ⟨_, rfl⟩
  subst hgL
  go_loopw [7, 8] (fun x y wr => x = .slice none 0 0 ∧ y = fj 0 ∧ ∃ l, Mem (· < w.heap.size) w l wr) (fun _ _ _ => 0)
  · exact ⟨rfl, rfl, _, M⟩
  · clear M
    obtain ⟨rfl, rfl, l, M⟩ := hrel
    (try dsimp only); (repeat (first | (first | ((with_reducible refine wl_g ?_); first | go_big_want | go_skip | ((with_reducible refine wl_off (by kernel_rfl) ?_); (first | ((with_reducible refine fastK Tryd.prog rfl ?_); go_big_move) | (with_reducible refine fastN rfl ?_) | skip))) | ((with_reducible refine on_load ?_); (first | refine xl1 M ?_ | refine xlN M ?_); go_big_move) | ((with_reducible refine on_store ?_); (first | refine xs1 M ?_ | refine xsN M ?_); clear M; intro w' M; (try simp only [List.set_cons_zero, List.set_cons_succ] at M)) | ((with_reducible refine on_box ?_); refine xb M ?_; clear M; intro g w' M; go_big_move) | ((with_reducible refine on_alloc ?_); refine xa M ?_; clear M; intro g w' M; go_big_move)) | go_values | go_skip | go_guarded | go_step | go_upon))
    exact ret_m1 rfl (Out.tmp rfl) rfl ⟨rfl, M.ext_of⟩
theorem nums_len {v : Live} (hl : ∀ k, k < 4 → (v.tab k).length ≤ 137438953472) : (numsOf v).length ≤ 1099511627776 := by
  have h0 := hl 0 (by decide)
  have h1 := hl 1 (by decide)
  have h2 := hl 2 (by decide)
  have h3 := hl 3 (by decide)
  show (numsTo v 4).length ≤ _
  rw [numsTo_succ, numsTo_succ, numsTo_succ, numsTo_succ]
  simp only [List.length_append, List.length_map]
  have : (numsTo v 0).length = 0 := rfl
  omega
/-- what the document's Orphans hands back, for any row of names -/
theorem orphans_ref_any (v : Live) (p : Place) (hl : ∀ k, k < 4 → (v.tab k).length ≤ 137438953472) (name : List UInt8) (names : List (List UInt8)) (hn : names.length ≤ 1048576) (hs : ∀ s ∈ names, s.length ≤ 140737488355328) (An : Option Addr) (c : Nat) (w : World) (hr : LiveAt w v p) (hc : CellsAt w An names) :
    Calls Tryd.prog 6 #[.agg #[.int .u64 v.next, .int .u64 v.seq, .int .u64 v.log, .slice (p.A 0) (v.tab 0).length (p.c 0), .slice (p.A 1) (v.tab 1).length (p.c 1), .slice (p.A 2) (v.tab 2).length (p.c 2), .slice (p.A 3) (v.tab 3).length (p.c 3)], str name, .slice An names.length c] w fun e w' => ∃ A' c', e = .returned (.slice A' (Orph.gather (keepD v name) [] names).length c') ∧ CellsAt w' A' (Orph.gather (keepD v name) [] names) ∧ Ext w w' := by
  rcases hc with rfl | ⟨b, off, rfl, hc⟩
  · exact (orphans_ref_nil v p name An c w).mono fun e w' ⟨he, hX⟩ => ⟨none, 0, he, .inl rfl, hX⟩
  · refine (orphans_ref v p (fun k hk => Nat.le_trans (hl k hk) (by decide)) (nums_len hl) name names hn hs b off c w hr hc).mono fun e w' ⟨A', c', he, ho, hX⟩ => ⟨A', c', he, ?_, hX⟩
    generalize Orph.gather (keepD v name) [] names = G at ho
    rcases ho.2 with ⟨h', _⟩ | ⟨g', cap', cur, h', _⟩
    · injection h' with h1 h2 h3
      exact .inl (List.eq_nil_of_length_eq_zero h2)
    · injection h' with h1 h2 h3
      subst h1
      refine .inr ⟨g', 0, rfl, fun i s hi => ?_⟩
      have hlt : i < G.length := (List.getElem?_eq_some_iff.1 hi).1
      have h := World.ownsRow.cellAt ho i (by omega)
      rw [sV_flat, List.getElem?_map, hi] at h
      rw [Nat.zero_add]
      exact h
set_option maxRecDepth 100000 in
set_option maxHeartbeats 4000000 in
theorem manifestOrphans_some (L0 : List LE) (hL : L0.length ≤ 1048576) (hq : ∀ q ∈ L0, q.e.Ok ∧ q.e.drop.length ≤ q.c') (A0 : Option Addr) (c0 : Nat) (cur : List UInt8) (hcur : cur.length ≤ 140737488355328) (names : List (List UInt8)) (hn : names.length ≤ 1048576) (hs : ∀ s ∈ names, s.length ≤ 140737488355328) (b off : Nat) (cn : Nat) (w : World) (ht : Tz w) (hE : Ev w) (hr : EditsR w A0 L0) (hc : ∀ i s, names[i]? = some s → w.cell? ⟨b, off + i, none⟩ = some (str s)) :
    Calls Tryd.prog 3 #[.slice A0 L0.length c0, str cur, .slice (some ⟨b, off, none⟩) names.length cn] w fun e w' => e = .returned (.bool true) ∧ Ext w w' := by
  have HMADE := Lib.hid (made_any L0 hL hq A0 c0 w hr)
  have hgd := madeOf_good (L := L0) (fun q h => (hq q h).1) L0.length (Nat.le_refl _)
  rw [List.take_length] at hgd
  obtain ⟨⟨v, D⟩, hm⟩ : ∃ r, madeOf L0 = r := ⟨_, rfl⟩
  rw [hm] at HMADE hgd
  dsimp only at HMADE hgd
  have hv37 : ∀ k, k < 4 → (v.tab k).length ≤ 137438953472 := fun k hk => by have := hgd.len k hk; omega
  have hvn := hgd.num
  obtain ⟨L, hLd⟩ : ∃ L, Lib.compact ((names.filter (keepG v cur)).mergeSort fun x y => decide (x ≤ y)) = L := ⟨_, rfl⟩
  have hLG : Orph.gather (keepD v cur) [] names = L := by rw [← orphans_both v hvn, hLd]
  have hLl : L.length ≤ 140737488355328 := by
    rw [← hLd]
    have h1 := Lib.compact_length_le ((names.filter (keepG v cur)).mergeSort fun x y => decide (x ≤ y))
    rw [List.length_mergeSort] at h1
    have h2 := List.length_filter_le (keepG v cur) names
    omega
  have HPR : Hid (∀ p w1, Ext w w1 → LiveAt w1 v p → ∀ w', Ext w1 w' → ∀ g, (∀ i s, names[i]? = some s → w'.cell? ⟨g, 0 + i, none⟩ = some (str s)) → Calls Tryd.prog 5 #[.agg #[.int .u64 v.next, .int .u64 v.seq, .int .u64 v.log, .slice (p.A 0) (v.tab 0).length (p.c 0), .slice (p.A 1) (v.tab 1).length (p.c 1), .slice (p.A 2) (v.tab 2).length (p.c 2), .slice (p.A 3) (v.tab 3).length (p.c 3)], str cur, .slice (some ⟨g, 0, none⟩) names.length names.length] w' fun e w'' => ∃ A' c', e = .returned (.slice A' L.length c') ∧ CellsAt w'' A' L ∧ Ext w' w'') := Lib.hid (fun p w1 hX1 hla w' hX g hc => by
    have h := orphans_prog v p hvn (fun k hk => Nat.le_trans (hv37 k hk) (by decide)) cur hcur names hn hs g 0 names.length w' ((ht.ext hX1).ext hX) ((hE.ext hX1).ext hX) (hla.ext hX) hc
    rw [hLd] at h
    refine h.mono fun e w'' ⟨A', c', he, ho, hX2⟩ => ⟨A', c', he, ?_, hX2⟩
    rcases ho with ho | ⟨g', rfl, ho⟩
    · exact .inl ho
    · exact .inr ⟨g', 0, rfl, fun i s hi => by rw [Nat.zero_add]; exact ho i s hi⟩)
  have HCN : Hid (∀ w', Ext w w' → CellsAt w' (some ⟨b, off, none⟩) names) := Lib.hid (fun w' hX => CellsAt.ext (.inr ⟨b, off, rfl, hc⟩) hX)
  have HRF : Hid (∀ p w1, Ext w w1 → LiveAt w1 v p → ∀ w', Ext w1 w' → Calls Tryd.prog 6 #[.agg #[.int .u64 v.next, .int .u64 v.seq, .int .u64 v.log, .slice (p.A 0) (v.tab 0).length (p.c 0), .slice (p.A 1) (v.tab 1).length (p.c 1), .slice (p.A 2) (v.tab 2).length (p.c 2), .slice (p.A 3) (v.tab 3).length (p.c 3)], str cur, .slice (some ⟨b, off, none⟩) names.length cn] w' fun e w'' => ∃ A' c', e = .returned (.slice A' L.length c') ∧ CellsAt w'' A' L ∧ Ext w' w'') := Lib.hid (fun p w1 hX1 hla w' hX => by
    have h := orphans_ref_any v p hv37 cur names hn hs (some ⟨b, off, none⟩) cn w' (hla.ext hX) (HCN.out w' (hX1.trans' hX))
    rwa [hLG] at h)
  have HS1 : Hid (∀ g, ∀ w', (∀ i s, names[i]? = some s → w'.cell? ⟨g, 0 + i, none⟩ = some (str s)) → Ext w w' → Calls Tryd.prog 7 #[.slice (some ⟨g, 0, none⟩) names.length names.length, .slice (some ⟨b, off, none⟩) names.length cn] w' fun e w'' => e = .returned (.bool true) ∧ Ext w' w'') := Lib.hid (fun g w' hc hX => sameT_any names (by omega) _ _ _ _ w' (.inr ⟨g, 0, rfl, hc⟩) (HCN.out w' hX))
  have HS2 : Hid (∀ A A' c c' w', CellsAt w' A L → CellsAt w' A' L → Calls Tryd.prog 7 #[.slice A L.length c, .slice A' L.length c'] w' fun e w'' => e = .returned (.bool true) ∧ Ext w' w'') := Lib.hid (fun A A' c c' w' h1 h2 => sameT_any L hLl A A' c c' w' h1 h2)
  obtain ⟨iS, hi1, hi2, hi3, hi4⟩ : ∃ i : TypeInfo, Tryd.prog.info? 9 = some i ∧ i.size = 1 ∧ i.bytes = 16 ∧ i.zero = some (.string ⟨#[]⟩) := ⟨(Tryd.prog.info? 9).getD default, by kernel_rfl, by kernel_rfl, by kernel_rfl, by kernel_rfl⟩
  have HSZ : Hid (names.length * iS.size ≤ 16777216) := Lib.hid (by rw [hi2]; omega)
  have HBY : Hid ((iS.bytes : Int) * (names.length : Int) ≤ 281474976710656) := Lib.hid (by rw [hi3]; omega)
  have HMC : Hid (madeCells (Value.string ⟨#[]⟩).cells (names.length * iS.size) = (List.replicate names.length (str [])).toArray) := Lib.hid (by
    have h := toList_madeCells_one (.string ⟨#[]⟩) names.length
    rw [hi2, Nat.mul_one]
    exact Array.ext' (by rw [← h]; rfl))
  have HI := Lib.hid hi1
  have HZ := Lib.hid hi4
  clear hi1 hi2 hi3 hi4
  have HNI : Hid ((names.length : Int) ≤ 9223372036854775807) := Lib.hid (by omega)
  have HSRC : Hid (∀ w', Ext w w' → ∀ j u, (names.map str)[j]? = some u → w'.cell? ⟨b, off + j, none⟩ = some u) := Lib.hid (fun w' hX j u hu => by
    rw [List.getElem?_map] at hu
    obtain ⟨s, hs1, rfl⟩ := Option.map_eq_some_iff.1 hu
    exact (hX.cell (p := ⟨b, off + j, none⟩) (block_lt_of_cell (hc j s hs1))).trans (hc j s hs1))
  clear hgd hm hvn hv37 hLd hLG hr ht hE hq hc
  go_enter Tryd.func3, Tryd.ntmps3
  have M := Mem.start w
  (try dsimp only); (repeat (first | (first | (go_at_call 4; (with_reducible refine HMADE.out.mono ?_); rintro _ w1 ⟨p, AD, cD, rfl, hla, -, hX1⟩; dsimp only [Live.cells]; have M := Mem.start w1) | ((with_reducible refine on_mk ?_); refine wp_mkBox M _ _ _ _ rfl _ (.string ⟨#[]⟩) Tryd.underlying23 HI.out HZ.out names.length rfl rfl HSZ.out HBY.out (List.replicate names.length (str [])) HMC.out HNI.out ?_; clear M; intro gO w2 M; (first | ((with_reducible refine fastK Tryd.prog rfl ?_); go_big_move) | (with_reducible refine fastN rfl ?_) | skip)) | ((with_reducible refine on_call_copy ?_); refine wp_copyB M (by (repeat (first | exact Pick.head | apply Pick.tail)); done) strE _ _ rfl rfl rfl (xs := names.map str) (by simp) (by simp) (by simp) (HSRC.out _ (hX1.trans' M.ext_of)) (fun u hu => by obtain ⟨x, -, rfl⟩ := List.mem_map.1 hu; rfl) ?_; clear M; intro w3 M; (first | ((with_reducible refine fastK Tryd.prog rfl ?_); go_big_move) | (with_reducible refine fastN rfl ?_) | skip)) | (go_at_call 5; (with_reducible refine (HPR.out p w1 hX1 hla _ M.ext_of gO (M.strs (by (repeat (first | exact Pick.head | apply Pick.tail)); done))).mono ?_); rintro _ w4 ⟨AO, cO, rfl, hO1, hX⟩; replace M := M.ext hX; clear hX; dsimp only) | (go_at_call 6; (with_reducible refine (HRF.out p w1 hX1 hla _ M.ext_of).mono ?_); rintro _ w5 ⟨AR, cR, rfl, hO2, hX⟩; replace M := M.ext hX; replace hO1 := hO1.ext hX; clear hX; dsimp only) | (go_at_call 7; (first | (with_reducible refine (HS1.out gO _ (M.strs (by (repeat (first | exact Pick.head | apply Pick.tail)); done)) (hX1.trans' M.ext_of)).mono ?_) | (with_reducible refine (HS2.out AO AR cO cR _ hO1 hO2).mono ?_)); rintro _ w6 ⟨rfl, hX⟩; replace M := M.ext hX; replace hO1 := hO1.ext hX; replace hO2 := hO2.ext hX; clear hX; dsimp only) | ((with_reducible refine wl_g ?_); first | go_big_want | go_skip | ((with_reducible refine wl_off (by kernel_rfl) ?_); (first | ((with_reducible refine fastK Tryd.prog rfl ?_); go_big_move) | (with_reducible refine fastN rfl ?_) | skip))) | ((with_reducible refine on_load ?_); (first | refine xl1 M ?_ | refine xlN M ?_); go_big_move) | ((with_reducible refine on_store ?_); (first | refine xs1 M ?_ | refine xsN M ?_); clear M; intro w' M; (try simp only [List.set_cons_zero, List.set_cons_succ] at M)) | ((with_reducible refine on_box ?_); refine xb M ?_; clear M; intro g w' M; go_big_move) | ((with_reducible refine on_alloc ?_); refine xa M ?_; clear M; intro g w' M; go_big_move)) | go_values | go_skip | go_guarded | go_step | go_upon))
  exact ret_m1 rfl (Out.tmp rfl) rfl ⟨rfl, hX1.trans' M.ext_of⟩
set_option maxRecDepth 100000 in
set_option maxHeartbeats 4000000 in
theorem manifestOrphans_none (L0 : List LE) (hL : L0.length ≤ 1048576) (hq : ∀ q ∈ L0, q.e.Ok ∧ q.e.drop.length ≤ q.c') (A0 : Option Addr) (c0 : Nat) (cur : List UInt8) (hcur : cur.length ≤ 140737488355328) (An : Option Addr) (cn : Nat) (w : World) (ht : Tz w) (hE : Ev w) (hr : EditsR w A0 L0) :
    Calls Tryd.prog 3 #[.slice A0 L0.length c0, str cur, .slice An 0 cn] w fun e w' => e = .returned (.bool true) ∧ Ext w w' := by
  have hn : ([] : List (List UInt8)).length ≤ 1048576 := by simp
  have hs : ∀ s ∈ ([] : List (List UInt8)), s.length ≤ 140737488355328 := by simp
  obtain ⟨names, hnames⟩ : ∃ names : List (List UInt8), names = [] := ⟨_, rfl⟩
  rw [← hnames] at hn hs
  have hcn : ∀ w', CellsAt w' An names := fun _ => .inl hnames
  show Calls Tryd.prog 3 #[.slice A0 L0.length c0, str cur, .slice An ([] : List (List UInt8)).length cn] w _
  rw [← hnames]
  have HN0 : Hid (names.length = 0) := Lib.hid (by rw [hnames]; rfl)
  have HNO : Hid (∀ (w' : World) (g : Nat), ∀ (i : Nat) (s : List UInt8), names[i]? = some s → w'.cell? ⟨g, 0 + i, none⟩ = some (str s)) := Lib.hid (fun w' g i s h => by rw [hnames] at h; cases h)
  have HMADE := Lib.hid (made_any L0 hL hq A0 c0 w hr)
  have hgd := madeOf_good (L := L0) (fun q h => (hq q h).1) L0.length (Nat.le_refl _)
  rw [List.take_length] at hgd
  obtain ⟨⟨v, D⟩, hm⟩ : ∃ r, madeOf L0 = r := ⟨_, rfl⟩
  rw [hm] at HMADE hgd
  dsimp only at HMADE hgd
  have hv37 : ∀ k, k < 4 → (v.tab k).length ≤ 137438953472 := fun k hk => by have := hgd.len k hk; omega
  have hvn := hgd.num
  obtain ⟨L, hLd⟩ : ∃ L, Lib.compact ((names.filter (keepG v cur)).mergeSort fun x y => decide (x ≤ y)) = L := ⟨_, rfl⟩
  have hLG : Orph.gather (keepD v cur) [] names = L := by rw [← orphans_both v hvn, hLd]
  have hLl : L.length ≤ 140737488355328 := by
    rw [← hLd]
    have h1 := Lib.compact_length_le ((names.filter (keepG v cur)).mergeSort fun x y => decide (x ≤ y))
    rw [List.length_mergeSort] at h1
    have h2 := List.length_filter_le (keepG v cur) names
    omega
  have HPR : Hid (∀ p w1, Ext w w1 → LiveAt w1 v p → ∀ w', Ext w1 w' → ∀ g, (∀ i s, names[i]? = some s → w'.cell? ⟨g, 0 + i, none⟩ = some (str s)) → Calls Tryd.prog 5 #[.agg #[.int .u64 v.next, .int .u64 v.seq, .int .u64 v.log, .slice (p.A 0) (v.tab 0).length (p.c 0), .slice (p.A 1) (v.tab 1).length (p.c 1), .slice (p.A 2) (v.tab 2).length (p.c 2), .slice (p.A 3) (v.tab 3).length (p.c 3)], str cur, .slice (some ⟨g, 0, none⟩) names.length names.length] w' fun e w'' => ∃ A' c', e = .returned (.slice A' L.length c') ∧ CellsAt w'' A' L ∧ Ext w' w'') := Lib.hid (fun p w1 hX1 hla w' hX g hc => by
    have h := orphans_prog v p hvn (fun k hk => Nat.le_trans (hv37 k hk) (by decide)) cur hcur names hn hs g 0 names.length w' ((ht.ext hX1).ext hX) ((hE.ext hX1).ext hX) (hla.ext hX) hc
    rw [hLd] at h
    refine h.mono fun e w'' ⟨A', c', he, ho, hX2⟩ => ⟨A', c', he, ?_, hX2⟩
    rcases ho with ho | ⟨g', rfl, ho⟩
    · exact .inl ho
    · exact .inr ⟨g', 0, rfl, fun i s hi => by rw [Nat.zero_add]; exact ho i s hi⟩)
  have HCN : Hid (∀ w', Ext w w' → CellsAt w' An names) := Lib.hid (fun w' _ => hcn w')
  have HRF : Hid (∀ p w1, Ext w w1 → LiveAt w1 v p → ∀ w', Ext w1 w' → Calls Tryd.prog 6 #[.agg #[.int .u64 v.next, .int .u64 v.seq, .int .u64 v.log, .slice (p.A 0) (v.tab 0).length (p.c 0), .slice (p.A 1) (v.tab 1).length (p.c 1), .slice (p.A 2) (v.tab 2).length (p.c 2), .slice (p.A 3) (v.tab 3).length (p.c 3)], str cur, .slice An names.length cn] w' fun e w'' => ∃ A' c', e = .returned (.slice A' L.length c') ∧ CellsAt w'' A' L ∧ Ext w' w'') := Lib.hid (fun p w1 hX1 hla w' hX => by
    have h := orphans_ref_any v p hv37 cur names hn hs An cn w' (hla.ext hX) (HCN.out w' (hX1.trans' hX))
    rwa [hLG] at h)
  have HS1 : Hid (∀ g, ∀ w', (∀ i s, names[i]? = some s → w'.cell? ⟨g, 0 + i, none⟩ = some (str s)) → Ext w w' → Calls Tryd.prog 7 #[.slice (some ⟨g, 0, none⟩) names.length names.length, .slice An names.length cn] w' fun e w'' => e = .returned (.bool true) ∧ Ext w' w'') := Lib.hid (fun g w' hc hX => sameT_any names (by omega) _ _ _ _ w' (.inr ⟨g, 0, rfl, hc⟩) (HCN.out w' hX))
  have HS2 : Hid (∀ A A' c c' w', CellsAt w' A L → CellsAt w' A' L → Calls Tryd.prog 7 #[.slice A L.length c, .slice A' L.length c'] w' fun e w'' => e = .returned (.bool true) ∧ Ext w' w'') := Lib.hid (fun A A' c c' w' h1 h2 => sameT_any L hLl A A' c c' w' h1 h2)
  obtain ⟨iS, hi1, hi2, hi3, hi4⟩ : ∃ i : TypeInfo, Tryd.prog.info? 9 = some i ∧ i.size = 1 ∧ i.bytes = 16 ∧ i.zero = some (.string ⟨#[]⟩) := ⟨(Tryd.prog.info? 9).getD default, by kernel_rfl, by kernel_rfl, by kernel_rfl, by kernel_rfl⟩
  have HSZ : Hid (names.length * iS.size ≤ 16777216) := Lib.hid (by rw [hi2]; omega)
  have HBY : Hid ((iS.bytes : Int) * (names.length : Int) ≤ 281474976710656) := Lib.hid (by rw [hi3]; omega)
  have HMC : Hid (madeCells (Value.string ⟨#[]⟩).cells (names.length * iS.size) = (List.replicate names.length (str [])).toArray) := Lib.hid (by
    have h := toList_madeCells_one (.string ⟨#[]⟩) names.length
    rw [hi2, Nat.mul_one]
    exact Array.ext' (by rw [← h]; rfl))
  have HI := Lib.hid hi1
  have HZ := Lib.hid hi4
  clear hi1 hi2 hi3 hi4
  have HNI : Hid ((names.length : Int) ≤ 9223372036854775807) := Lib.hid (by omega)
  clear hgd hm hvn hv37 hLd hLG hr ht hE hq hnames
  go_enter Tryd.func3, Tryd.ntmps3
  have M := Mem.start w
  (try dsimp only); (repeat (first | (first | (go_at_call 4; (with_reducible refine HMADE.out.mono ?_); rintro _ w1 ⟨p, AD, cD, rfl, hla, -, hX1⟩; dsimp only [Live.cells]; have M := Mem.start w1) | ((with_reducible refine on_mk ?_); refine wp_mkBox M _ _ _ _ rfl _ (.string ⟨#[]⟩) Tryd.underlying23 HI.out HZ.out names.length rfl rfl HSZ.out HBY.out (List.replicate names.length (str [])) HMC.out HNI.out ?_; clear M; intro gO w2 M; (first | ((with_reducible refine fastK Tryd.prog rfl ?_); go_big_move) | (with_reducible refine fastN rfl ?_) | skip)) | ((with_reducible refine on_call_copy ?_); refine wp_copy0 strE _ _ rfl rfl rfl HN0.out HN0.out ?_; (first | ((with_reducible refine fastK Tryd.prog rfl ?_); go_big_move) | (with_reducible refine fastN rfl ?_) | skip)) | (go_at_call 5; (with_reducible refine (HPR.out p w1 hX1 hla _ M.ext_of gO (HNO.out _ gO)).mono ?_); rintro _ w4 ⟨AO, cO, rfl, hO1, hX⟩; replace M := M.ext hX; clear hX; dsimp only) | (go_at_call 6; (with_reducible refine (HRF.out p w1 hX1 hla _ M.ext_of).mono ?_); rintro _ w5 ⟨AR, cR, rfl, hO2, hX⟩; replace M := M.ext hX; replace hO1 := hO1.ext hX; clear hX; dsimp only) | (go_at_call 7; (first | (with_reducible refine (HS1.out gO _ (HNO.out _ gO) (hX1.trans' M.ext_of)).mono ?_) | (with_reducible refine (HS2.out AO AR cO cR _ hO1 hO2).mono ?_)); rintro _ w6 ⟨rfl, hX⟩; replace M := M.ext hX; replace hO1 := hO1.ext hX; replace hO2 := hO2.ext hX; clear hX; dsimp only) | ((with_reducible refine wl_g ?_); first | go_big_want | go_skip | ((with_reducible refine wl_off (by kernel_rfl) ?_); (first | ((with_reducible refine fastK Tryd.prog rfl ?_); go_big_move) | (with_reducible refine fastN rfl ?_) | skip))) | ((with_reducible refine on_load ?_); (first | refine xl1 M ?_ | refine xlN M ?_); go_big_move) | ((with_reducible refine on_store ?_); (first | refine xs1 M ?_ | refine xsN M ?_); clear M; intro w' M; (try simp only [List.set_cons_zero, List.set_cons_succ] at M)) | ((with_reducible refine on_box ?_); refine xb M ?_; clear M; intro g w' M; go_big_move) | ((with_reducible refine on_alloc ?_); refine xa M ?_; clear M; intro g w' M; go_big_move)) | go_values | go_skip | go_guarded | go_step | go_upon))
  exact ret_m1 rfl (Out.tmp rfl) rfl ⟨rfl, hX1.trans' M.ext_of⟩
end Go.Proofs.YtmmaddmlfofgbaaDoor
