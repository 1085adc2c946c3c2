/- Frames read from bytes (layer 2): what the program and the reference both compute. -/
import Derived.Test.YteplpgknnlehnaaTake2
import Derived.Test.YteplpgknnlehnaaFr
namespace Go.Proofs.Yteplpgknnlehnaa
set_option linter.unusedSimpArgs false
set_option linter.unusedVariables false
open Go.RowKit

structure Frm where
  kind : UInt8
  load : List UInt8
deriving DecidableEq
/-- the frame with which bytes begin, how many bytes it takes, what is wrong -/
def takeFrame (s : List UInt8) : Frm × Nat × Nat :=
  if s.length < 5 then (⟨0, []⟩, 0, 2) else if s.getD 4 0 = 0 then (⟨0, []⟩, 0, 3) else if (takeText 262144 (s.drop 5)).2.2 ≠ 0 then (⟨0, []⟩, 0, (takeText 262144 (s.drop 5)).2.2) else
  if little (crc ((s.drop 4).take ((takeText 262144 (s.drop 5)).2.1 + 1))) ≠ s.take 4 then (⟨0, []⟩, 0, 3) else (⟨s.getD 4 0, (takeText 262144 (s.drop 5)).1⟩, (takeText 262144 (s.drop 5)).2.1 + 5, 0)

theorem fr_ret {fn : Func} {R : Ending → World → Prop} {a : Act} {W : World} {S : Nat} {v0 v1 : Value} {n e : Int} (hres : fn.results = #[.cell 2 73, .tmp 3, .tmp 4]) (h2 : a.tmps.getD 2 undef = .pointer (some ⟨S, 0, none⟩)) (h3 : a.tmps.getD 3 undef = .int .i64 n)
    (h4 : a.tmps.getD 4 undef = .int .i64 e) (hd : a.defers = []) (bZ : Box W S 73 #[v0, v1]) (h : R (.returned (.tuple #[.agg #[v0, v1], .int .i64 n, .int .i64 e])) W) : bodyPost Try.prog fn R .ret a W := by
  have z0 := bZ.cell 0
  have z1 := bZ.cell 1
  simp only [List.getElem?_toArray, List.getElem?_cons_zero, List.getElem?_cons_succ] at z0 z1
  have h2' : a.tmps[2]?.getD undef = .pointer (some ⟨S, 0, none⟩) := by simpa using h2
  have h3' : a.tmps[3]?.getD undef = .int .i64 n := by simpa using h3
  have h4' : a.tmps[4]?.getD undef = .int .i64 e := by simpa using h4
  refine bodyPost_ret ?_ hd h
  simp [results, hres, h2', h3', h4', go_sem, z0, z1]

def FrPost (r : Frm × Nat × Nat) (w : World) (e : Ending) (w' : World) : Prop := e = .returned (.tuple #[.agg #[.int .u8 (r.1.kind.toNat : Int), str r.1.load], .int .i64 r.2.1, .int .i64 r.2.2]) ∧ Ext w w'
theorem FrPost.bad {w w' : World} (e : Nat) (h : Ext w w') : FrPost (⟨0, []⟩, 0, e) w (.returned (.tuple #[.agg #[.int .u8 0, str []], .int .i64 0, .int .i64 e])) w' := ⟨rfl, h⟩
theorem FrPost.good {w w' : World} (k : UInt8) (l : List UInt8) (n : Nat) (h : Ext w w') : FrPost (⟨k, l⟩, n, 0) w (.returned (.tuple #[.agg #[.int .u8 (k.toNat : Int), str l], .int .i64 n, .int .i64 0])) w' := ⟨rfl, h⟩
theorem Box.put2' {w : World} {g : Nat} {t : TypeId} {u0 u1 : Value} (h : Box w g t #[u0, u1]) (v0 v1 : Value) : Box ((w.setCell ⟨g, 0, none⟩ v0).setCell ⟨g, 1, none⟩ v1) g t #[v0, v1] := by
  have := (h.put 0 v0).put 1 v1
  simpa only [List.setIfInBounds_toArray, List.set_cons_zero, List.set_cons_succ] using this
theorem Below.put2' {B : Nat} {w w' : World} (h : Below B w w') {g : Nat} (hg : B ≤ g) (v0 v1 : Value) : Below B w ((w'.setCell ⟨g, 0, none⟩ v0).setCell ⟨g, 1, none⟩ v1) :=
  (h.setCell (p := ⟨g, 0, none⟩) hg v0).setCell (p := ⟨g, 1, none⟩) hg v1
theorem u8_zero {b : UInt8} (h : b.toNat = 0) : b = 0 := UInt8.toNat_inj.1 (by simpa using h)

set_option maxRecDepth 100000 in
set_option maxHeartbeats 800000 in
theorem frameTake_any (s : List UInt8) (hl : s.length ≤ 1099511627776) (w : World) : Calls Try.prog 69 #[str s] w (FrPost (takeFrame s) w) := by
  obtain ⟨S, hS⟩ : ∃ S, w.heap.size = S := ⟨_, rfl⟩
  by_cases h5 : s.length < 5
  · have HF : Hid (takeFrame s = (⟨0, []⟩, 0, 2)) := by unfold Hid; rw [takeFrame, if_pos h5]
    go_enter Try.func69, Try.ntmps69
    (try dsimp only); (repeat (first | go_values | go_skip | go_guarded | go_step | go_upon)); (try simp only [Exit.inBlock, Exit.then])
    exact fr_ret rfl rfl rfl rfl rfl (Box.new_at _ _ _ _ hS.symm) (by rw [HF.out]; exact FrPost.bad 2 (by (repeat (first | exact Below.refl _ _ | refine Ext.trans' ?_ (Ext.al _ _) | refine Ext.trans' ?_ (Ext.dr _) | refine Ext.trans' ?_ (by assumption)))))
  · have hlen : 4 < s.length := by omega
    obtain ⟨b, hb⟩ : ∃ b, s[4]'hlen = b := ⟨_, rfl⟩
    have hgd : s.getD 4 0 = b := by rw [← hb]; simp [List.getD, hlen]
    have HB : Hid (s.getD 4 0 = b) := hgd
    have hx := b.toNat_lt
    obtain ⟨x, hxx⟩ : ∃ x, b.toNat = x := ⟨_, rfl⟩
    have hx' : ((⟨s.toArray⟩ : ByteArray)[4]'(by show 4 < s.toArray.size; simpa using hlen)).toNat = x := by rw [← hxx, ← hb]; rfl
    rw [hxx] at hx
    have HX := Lib.hid hxx
    clear hxx hgd hb
    by_cases h0 : x = 0
    · subst h0
      have HF : Hid (takeFrame s = (⟨0, []⟩, 0, 3)) := by unfold Hid; rw [takeFrame, if_neg h5, if_pos (by rw [HB.out]; exact u8_zero HX.out)]
      go_enter Try.func69, Try.ntmps69
      (try dsimp only); (repeat (first | go_values | go_skip | go_guarded | go_step | go_upon)); (try simp only [Exit.inBlock, Exit.then])
      exact fr_ret rfl rfl rfl rfl rfl (Box.new_at _ _ _ _ hS.symm) (by rw [HF.out]; exact FrPost.bad 3 (by (repeat (first | exact Below.refl _ _ | refine Ext.trans' ?_ (Ext.al _ _) | refine Ext.trans' ?_ (Ext.dr _) | refine Ext.trans' ?_ (by assumption)))))
    · have hne : ((x : Int) == 0) = false := by simp; omega
      have hnb : s.getD 4 0 ≠ 0 := by rw [HB.out]; rintro rfl; have := HX.out; simp at this; omega
      have C := Lib.hid (fun w => takeText_any 262144 (by omega) (s.drop 5) (by simp; omega) w)
      have c1 : (takeText 262144 (s.drop 5)).1.length ≤ 262144 := by
        unfold takeText
        split
        · simp
        · split
          · simp
          · split
            · simp
            · simp; omega
      have c2 : (takeText 262144 (s.drop 5)).2.1 ≤ (s.drop 5).length := by
        have := takeUint_len (s.drop 5)
        unfold takeText
        split
        · simp
        · split
          · simp
          · split
            · simp
            · simp at *; omega
      have c3 : (takeText 262144 (s.drop 5)).2.2 ≤ 3 := by
        have := takeUint_err (s.drop 5)
        unfold takeText
        split
        · simp; omega
        · split
          · simp
          · split <;> simp
      have HT : Hid (∀ t k e, takeText 262144 (s.drop 5) = (t, k, e) → takeFrame s = if e ≠ 0 then (⟨0, []⟩, 0, e) else if little (crc ((s.drop 4).take (k + 1))) ≠ s.take 4 then (⟨0, []⟩, 0, 3) else (⟨b, t⟩, k + 5, 0)) := by
        intro t k e h
        rw [takeFrame, if_neg h5, if_neg hnb, h, HB.out]
      obtain ⟨t, k, e, hu⟩ : ∃ t k e, takeText 262144 (s.drop 5) = (t, k, e) := ⟨_, _, _, rfl⟩
      have HT' := Lib.hid (HT.out t k e hu)
      rw [hu] at C c1 c2 c3
      dsimp only at C c1 c2 c3
      rw [List.length_drop] at c2
      clear HT hu hnb
      by_cases he : e = 0
      · subst he
        have hT2 := HT'.out
        rw [if_neg (by simp)] at hT2
        have HT2 := Lib.hid hT2
        have hxa : (⟨s.toArray⟩ : ByteArray).extract 4 (k + 5) = ⟨((s.drop 4).take (k + 1)).toArray⟩ := by rw [ba_extract, show k + 5 - 4 = k + 1 by omega]
        have hxb : (⟨s.toArray⟩ : ByteArray).extract 0 4 = ⟨(s.take 4).toArray⟩ := by rw [ba_extract]; simp
        obtain ⟨hs0, hs1⟩ := crc_ok ((s.drop 4).take (k + 1))
        have CS := Lib.hid (fun w => sum_any ((s.drop 4).take (k + 1)) (by simp; omega) w)
        obtain ⟨cc, hcc⟩ : ∃ cc, crc ((s.drop 4).take (k + 1)) = cc := ⟨_, rfl⟩
        rw [hcc] at CS HT2 hs0 hs1
        have CL := Lib.hid (fun w => little_any cc hs0 hs1 w)
        clear HT' hT2 hcc
        by_cases heq : little cc = s.take 4
        all_goals
          have hT3 := HT2.out
          first
          | (rw [if_neg (by simpa using heq)] at hT3
             have hq : (little cc == s.take 4) = true := by simpa using heq)
          | (rw [if_pos heq] at hT3
             have hq : (little cc == s.take 4) = false := by simpa using heq)
          have HF := Lib.hid hT3
          clear heq hT3
          go_enter Try.func69, Try.ntmps69
          go_wp2_with fail
          (obtain ⟨w0, hw0⟩ : ∃ w0, w0 = World.alloc w (.cells #[.int .u8 0, str []] 73) := ⟨_, rfl⟩); (have hbox_w0 : Box w0 (w).heap.size 73 #[.int .u8 0, str []] := by rw [hw0]; exact Box.new _ _ _); (have hE_w0 : Ext w w0 := by rw [hw0]; exact Ext.al _ _); (have hz_w0 : (w0).heap.size = (w).heap.size + 1 := by rw [hw0]; simp); rw [← hw0]; clear hw0
          rw [hS] at hbox_w0
          refine (C.out _).mono ?_
          rintro _ w1 ⟨rfl, hb1⟩
          have bR := hbox_w0.ext hb1
          have hX := hE_w0.trans' hb1
          clear hbox_w0 hE_w0 hz_w0 hb1
          go_wp2_with fail
          have i1 : (k : Int) + 5 ≤ (s.length : Int) := by omega
          have i2 : (4 : Int) ≤ (k : Int) + 5 := by omega
          have i3 : (0 : Int) ≤ (k : Int) + 5 := by omega
          have i4 : (4 : Int) ≤ (s.length : Int) := by omega
          have i5 : ((k : Int) + 5).toNat = k + 5 := by omega
          have i6 : (5 : Int) + (k : Int) ≤ (s.length : Int) := by omega
          have i7 : (4 : Int) ≤ 5 + (k : Int) := by omega
          have i8 : (0 : Int) ≤ 5 + (k : Int) := by omega
          have i9 : (5 + (k : Int)).toNat = k + 5 := by omega
          have i10 : IntKind.i64.wrap (5 + (k : Int)) = 5 + (k : Int) := IntWalk.i64_in _ (by omega)
          refine wp_region_sch (RS ((fun _ => False))) 8 [(0, true), (1, true), (2, true), (5, true), (6, true), (3, false), (4, false), (7, true)] (by kernel_rfl) (by kernel_rfl) RS.refl RS.trans (fun _ _ d _ _ h => by cases d <;> exact h) ?_
          refine wpSch_q ?_ rfl rfl (fun w' hR => ?_) ?_
          rotate_left
          · (go_simp; first | rfl | rw [if_neg (by simp; omega)] | rw [if_neg (by omega)])
          (try simp only [Act.put, List.setIfInBounds_toArray, List.set_cons_zero, List.set_cons_succ])
          refine wpSch_q ?_ rfl rfl (fun w' hR => ?_) ?_
          rotate_left
          · (go_simp; first | rfl | rw [if_neg (by simp; omega)] | rw [if_neg (by omega)])
          (try simp only [Act.put, List.setIfInBounds_toArray, List.set_cons_zero, List.set_cons_succ])
          refine wpSch_q ?_ rfl rfl (fun w' hR => ?_) ?_
          rotate_left
          · (go_simp; first | rfl | rw [if_neg (by simp; omega)] | rw [if_neg (by omega)])
          (try simp only [Act.put, List.setIfInBounds_toArray, List.set_cons_zero, List.set_cons_succ])
          refine wpSch_q ?_ rfl rfl (fun w' hR => ?_) ?_
          rotate_left
          · (go_simp; first | rfl | rw [if_neg (by simp; omega)] | rw [if_neg (by omega)])
          (try simp only [Act.put, List.setIfInBounds_toArray, List.set_cons_zero, List.set_cons_succ])
          refine wpSch_q ?_ rfl rfl (fun w' hR => ?_) ?_
          rotate_left
          · (go_simp; first | rfl | rw [if_neg (by simp; omega)] | rw [if_neg (by omega)])
          (try simp only [Act.put, List.setIfInBounds_toArray, List.set_cons_zero, List.set_cons_succ])
          refine wpSch_e rfl rfl (fun K hK => ?_)
          go_simp
          refine (CS.out _).mono ?_
          rintro e w2 ⟨rfl, rfl⟩
          refine hK _ _ (fun _ => RS.refl _) ?_
          clear hK K
          (try simp only [Act.put, List.setIfInBounds_toArray, List.set_cons_zero, List.set_cons_succ])
          refine wpSch_e rfl rfl (fun K hK => ?_)
          go_simp
          refine (CL.out _).mono ?_
          rintro e w2 ⟨rfl, hb2⟩
          refine hK _ _ (fun _ => RS.ext hb2) ?_
          clear hK K
          (try simp only [Act.put, List.setIfInBounds_toArray, List.set_cons_zero, List.set_cons_succ])
          refine wpSch_q ?_ rfl rfl (fun w' hR => ?_) ?_
          rotate_left
          · (go_simp; first | rfl | rw [if_neg (by simp; omega)] | rw [if_neg (by omega)])
          (try simp only [Act.put, List.setIfInBounds_toArray, List.set_cons_zero, List.set_cons_succ])
          refine wpSch_nil ?_
          clear i10
          have bR2 := (Box.drew bR).ext hb2
          have hX2 : Ext w w2 := (hX.trans' (Ext.dr _)).trans' hb2
          clear bR hX hb2 i1 i2 i3 i4 i5 i6 i7 i8 i9
          have r0 := bR2.cell 0
          have r1 := bR2.cell 1
          have rf := bR2.frozen
          simp only [List.getElem?_toArray, List.getElem?_cons_zero, List.getElem?_cons_succ] at r0 r1
          (try dsimp only); (repeat (first | go_values | go_skip | go_guarded | go_step | go_upon)); (try simp only [Exit.inBlock, Exit.then])
        · refine fr_ret rfl rfl rfl rfl rfl (bR2.put2' _ _) ?_
          rw [HF.out]
          have h := FrPost.good (w := w) b t (k + 5) (Below.put2' hX2 (Nat.le_of_eq hS) (.int .u8 x) (str t))
          rw [HX.out] at h
          simpa [Int.add_comm] using h
        · exact fr_ret rfl rfl rfl rfl rfl (bR2.put2' _ _) (by rw [HF.out]; exact FrPost.bad 3 (Below.put2' hX2 (Nat.le_of_eq hS) _ _))
      · have hne2 : ((e : Int) != 0) = true := by simp; omega
        have HF := Lib.hid (HT'.out.trans (if_pos he))
        clear HT'
        go_enter Try.func69, Try.ntmps69
        go_wp2_with fail
        (obtain ⟨w0, hw0⟩ : ∃ w0, w0 = World.alloc w (.cells #[.int .u8 0, str []] 73) := ⟨_, rfl⟩); (have hbox_w0 : Box w0 (w).heap.size 73 #[.int .u8 0, str []] := by rw [hw0]; exact Box.new _ _ _); (have hE_w0 : Ext w w0 := by rw [hw0]; exact Ext.al _ _); (have hz_w0 : (w0).heap.size = (w).heap.size + 1 := by rw [hw0]; simp); rw [← hw0]; clear hw0
        rw [hS] at hbox_w0
        refine (C.out _).mono ?_
        rintro _ w1 ⟨rfl, hb1⟩
        have bR2 := hbox_w0.ext hb1
        have hX2 := hE_w0.trans' hb1
        have r0 := bR2.cell 0
        have r1 := bR2.cell 1
        have rf := bR2.frozen
        simp only [List.getElem?_toArray, List.getElem?_cons_zero, List.getElem?_cons_succ] at r0 r1
        (try dsimp only); (repeat (first | go_values | go_skip | go_guarded | go_step | go_upon)); (try simp only [Exit.inBlock, Exit.then])
        exact fr_ret rfl rfl rfl rfl rfl (bR2.put2' _ _) (by rw [HF.out]; exact FrPost.bad e (Below.put2' hX2 (Nat.le_of_eq hS) _ _))
set_option maxRecDepth 100000 in
set_option maxHeartbeats 800000 in
theorem frameTake_ref (s : List UInt8) (hl : s.length ≤ 1099511627776) (w : World) : Calls Try.prog 89 #[str s] w (FrPost (takeFrame s) w) := by
  obtain ⟨S, hS⟩ : ∃ S, w.heap.size = S := ⟨_, rfl⟩
  by_cases h5 : s.length < 5
  · have HF : Hid (takeFrame s = (⟨0, []⟩, 0, 2)) := by unfold Hid; rw [takeFrame, if_pos h5]
    go_enter Try.func89, Try.ntmps89
    (try dsimp only); (repeat (first | go_values | go_skip | go_guarded | go_step | go_upon)); (try simp only [Exit.inBlock, Exit.then])
    exact fr_ret rfl rfl rfl rfl rfl (Box.new_at _ _ _ _ hS.symm) (by rw [HF.out]; exact FrPost.bad 2 (by (repeat (first | exact Below.refl _ _ | refine Ext.trans' ?_ (Ext.al _ _) | refine Ext.trans' ?_ (Ext.dr _) | refine Ext.trans' ?_ (by assumption)))))
  · have hlen : 4 < s.length := by omega
    obtain ⟨b, hb⟩ : ∃ b, s[4]'hlen = b := ⟨_, rfl⟩
    have hgd : s.getD 4 0 = b := by rw [← hb]; simp [List.getD, hlen]
    have HB : Hid (s.getD 4 0 = b) := hgd
    have hx := b.toNat_lt
    obtain ⟨x, hxx⟩ : ∃ x, b.toNat = x := ⟨_, rfl⟩
    have hx' : ((⟨s.toArray⟩ : ByteArray)[4]'(by show 4 < s.toArray.size; simpa using hlen)).toNat = x := by rw [← hxx, ← hb]; rfl
    rw [hxx] at hx
    have HX := Lib.hid hxx
    clear hxx hgd hb
    by_cases h0 : x = 0
    · subst h0
      have HF : Hid (takeFrame s = (⟨0, []⟩, 0, 3)) := by unfold Hid; rw [takeFrame, if_neg h5, if_pos (by rw [HB.out]; exact u8_zero HX.out)]
      go_enter Try.func89, Try.ntmps89
      (try dsimp only); (repeat (first | go_values | go_skip | go_guarded | go_step | go_upon)); (try simp only [Exit.inBlock, Exit.then])
      exact fr_ret rfl rfl rfl rfl rfl (Box.new_at _ _ _ _ hS.symm) (by rw [HF.out]; exact FrPost.bad 3 (by (repeat (first | exact Below.refl _ _ | refine Ext.trans' ?_ (Ext.al _ _) | refine Ext.trans' ?_ (Ext.dr _) | refine Ext.trans' ?_ (by assumption)))))
    · have hne : ((x : Int) == 0) = false := by simp; omega
      have hnb : s.getD 4 0 ≠ 0 := by rw [HB.out]; rintro rfl; have := HX.out; simp at this; omega
      have C := Lib.hid (fun w => takeText_ref 262144 (by omega) (s.drop 5) (by simp; omega) w)
      have c1 : (takeText 262144 (s.drop 5)).1.length ≤ 262144 := by
        unfold takeText
        split
        · simp
        · split
          · simp
          · split
            · simp
            · simp; omega
      have c2 : (takeText 262144 (s.drop 5)).2.1 ≤ (s.drop 5).length := by
        have := takeUint_len (s.drop 5)
        unfold takeText
        split
        · simp
        · split
          · simp
          · split
            · simp
            · simp at *; omega
      have c3 : (takeText 262144 (s.drop 5)).2.2 ≤ 3 := by
        have := takeUint_err (s.drop 5)
        unfold takeText
        split
        · simp; omega
        · split
          · simp
          · split <;> simp
      have HT : Hid (∀ t k e, takeText 262144 (s.drop 5) = (t, k, e) → takeFrame s = if e ≠ 0 then (⟨0, []⟩, 0, e) else if little (crc ((s.drop 4).take (k + 1))) ≠ s.take 4 then (⟨0, []⟩, 0, 3) else (⟨b, t⟩, k + 5, 0)) := by
        intro t k e h
        rw [takeFrame, if_neg h5, if_neg hnb, h, HB.out]
      obtain ⟨t, k, e, hu⟩ : ∃ t k e, takeText 262144 (s.drop 5) = (t, k, e) := ⟨_, _, _, rfl⟩
      have HT' := Lib.hid (HT.out t k e hu)
      rw [hu] at C c1 c2 c3
      dsimp only at C c1 c2 c3
      rw [List.length_drop] at c2
      clear HT hu hnb
      by_cases he : e = 0
      · subst he
        have hT2 := HT'.out
        rw [if_neg (by simp)] at hT2
        have HT2 := Lib.hid hT2
        have hxa : (⟨s.toArray⟩ : ByteArray).extract 4 (k + 5) = ⟨((s.drop 4).take (k + 1)).toArray⟩ := by rw [ba_extract, show k + 5 - 4 = k + 1 by omega]
        have hxb : (⟨s.toArray⟩ : ByteArray).extract 0 4 = ⟨(s.take 4).toArray⟩ := by rw [ba_extract]; simp
        obtain ⟨hs0, hs1⟩ := crc_ok ((s.drop 4).take (k + 1))
        have CS := Lib.hid (fun w => sum_ref ((s.drop 4).take (k + 1)) (by simp; omega) w)
        obtain ⟨cc, hcc⟩ : ∃ cc, crc ((s.drop 4).take (k + 1)) = cc := ⟨_, rfl⟩
        rw [hcc] at CS HT2 hs0 hs1
        have CL := Lib.hid (fun w => little_ref cc hs0 hs1 w)
        clear HT' hT2 hcc
        by_cases heq : little cc = s.take 4
        all_goals
          have hT3 := HT2.out
          first
          | (rw [if_neg (by simpa using heq)] at hT3
             have hq : (little cc == s.take 4) = true := by simpa using heq)
          | (rw [if_pos heq] at hT3
             have hq : (little cc == s.take 4) = false := by simpa using heq)
          have HF := Lib.hid hT3
          clear heq hT3
          go_enter Try.func89, Try.ntmps89
          go_wp2_with fail
          (obtain ⟨w0, hw0⟩ : ∃ w0, w0 = World.alloc w (.cells #[.int .u8 0, str []] 73) := ⟨_, rfl⟩); (have hbox_w0 : Box w0 (w).heap.size 73 #[.int .u8 0, str []] := by rw [hw0]; exact Box.new _ _ _); (have hE_w0 : Ext w w0 := by rw [hw0]; exact Ext.al _ _); (have hz_w0 : (w0).heap.size = (w).heap.size + 1 := by rw [hw0]; simp); rw [← hw0]; clear hw0
          rw [hS] at hbox_w0
          refine (C.out _).mono ?_
          rintro _ w1 ⟨rfl, hb1⟩
          have bR := hbox_w0.ext hb1
          have hX := hE_w0.trans' hb1
          clear hbox_w0 hE_w0 hz_w0 hb1
          go_wp2_with fail
          have i1 : (k : Int) + 5 ≤ (s.length : Int) := by omega
          have i2 : (4 : Int) ≤ (k : Int) + 5 := by omega
          have i3 : (0 : Int) ≤ (k : Int) + 5 := by omega
          have i4 : (4 : Int) ≤ (s.length : Int) := by omega
          have i5 : ((k : Int) + 5).toNat = k + 5 := by omega
          have i6 : (5 : Int) + (k : Int) ≤ (s.length : Int) := by omega
          have i7 : (4 : Int) ≤ 5 + (k : Int) := by omega
          have i8 : (0 : Int) ≤ 5 + (k : Int) := by omega
          have i9 : (5 + (k : Int)).toNat = k + 5 := by omega
          have i10 : IntKind.i64.wrap (5 + (k : Int)) = 5 + (k : Int) := IntWalk.i64_in _ (by omega)
          refine wp_region_sch (RS ((fun _ => False))) 9 [(0, true), (1, true), (2, true), (3, true), (6, true), (7, true), (4, false), (5, false), (8, true)] (by kernel_rfl) (by kernel_rfl) RS.refl RS.trans (fun _ _ d _ _ h => by cases d <;> exact h) ?_
          refine wpSch_q ?_ rfl rfl (fun w' hR => ?_) ?_
          rotate_left
          · (go_simp; first | rfl | rw [if_neg (by simp; omega)] | rw [if_neg (by omega)])
          (try simp only [Act.put, List.setIfInBounds_toArray, List.set_cons_zero, List.set_cons_succ])
          refine wpSch_q ?_ rfl rfl (fun w' hR => ?_) ?_
          rotate_left
          · (go_simp; first | rfl | rw [if_neg (by simp; omega)] | rw [if_neg (by omega)])
          (try simp only [Act.put, List.setIfInBounds_toArray, List.set_cons_zero, List.set_cons_succ])
          refine wpSch_q ?_ rfl rfl (fun w' hR => ?_) ?_
          rotate_left
          · (go_simp; first | rfl | rw [if_neg (by simp; omega)] | rw [if_neg (by omega)])
          (try simp only [Act.put, List.setIfInBounds_toArray, List.set_cons_zero, List.set_cons_succ])
          refine wpSch_q ?_ rfl rfl (fun w' hR => ?_) ?_
          rotate_left
          · (go_simp; first | rfl | rw [if_neg (by simp; omega)] | rw [if_neg (by omega)])
          (try simp only [Act.put, List.setIfInBounds_toArray, List.set_cons_zero, List.set_cons_succ])
          refine wpSch_q ?_ rfl rfl (fun w' hR => ?_) ?_
          rotate_left
          · (go_simp; first | rfl | rw [if_neg (by simp; omega)] | rw [if_neg (by omega)])
          (try simp only [Act.put, List.setIfInBounds_toArray, List.set_cons_zero, List.set_cons_succ])
          refine wpSch_q ?_ rfl rfl (fun w' hR => ?_) ?_
          rotate_left
          · (go_simp; first | rfl | rw [if_neg (by simp; omega)] | rw [if_neg (by omega)])
          (try simp only [Act.put, List.setIfInBounds_toArray, List.set_cons_zero, List.set_cons_succ])
          refine wpSch_e rfl rfl (fun K hK => ?_)
          go_simp
          refine (CS.out _).mono ?_
          rintro e w2 ⟨rfl, rfl⟩
          refine hK _ _ (fun _ => RS.refl _) ?_
          clear hK K
          (try simp only [Act.put, List.setIfInBounds_toArray, List.set_cons_zero, List.set_cons_succ])
          refine wpSch_e rfl rfl (fun K hK => ?_)
          go_simp
          refine (CL.out _).mono ?_
          rintro e w2 ⟨rfl, hb2⟩
          refine hK _ _ (fun _ => RS.ext hb2) ?_
          clear hK K
          (try simp only [Act.put, List.setIfInBounds_toArray, List.set_cons_zero, List.set_cons_succ])
          refine wpSch_q ?_ rfl rfl (fun w' hR => ?_) ?_
          rotate_left
          · (go_simp; first | rfl | rw [if_neg (by simp; omega)] | rw [if_neg (by omega)])
          (try simp only [Act.put, List.setIfInBounds_toArray, List.set_cons_zero, List.set_cons_succ])
          refine wpSch_nil ?_
          clear i10
          have bR2 := (Box.drew bR).ext hb2
          have hX2 : Ext w w2 := (hX.trans' (Ext.dr _)).trans' hb2
          clear bR hX hb2 i1 i2 i3 i4 i5 i6 i7 i8 i9
          have r0 := bR2.cell 0
          have r1 := bR2.cell 1
          have rf := bR2.frozen
          simp only [List.getElem?_toArray, List.getElem?_cons_zero, List.getElem?_cons_succ] at r0 r1
          (try dsimp only); (repeat (first | go_values | go_skip | go_guarded | go_step | go_upon)); (try simp only [Exit.inBlock, Exit.then])
        · refine fr_ret rfl rfl rfl rfl rfl (bR2.put2' _ _) ?_
          rw [HF.out]
          have h := FrPost.good (w := w) b t (k + 5) (Below.put2' hX2 (Nat.le_of_eq hS) (.int .u8 x) (str t))
          rw [HX.out] at h
          simpa [Int.add_comm] using h
        · exact fr_ret rfl rfl rfl rfl rfl (bR2.put2' _ _) (by rw [HF.out]; exact FrPost.bad 3 (Below.put2' hX2 (Nat.le_of_eq hS) _ _))
      · have hne2 : ((e : Int) != 0) = true := by simp; omega
        have HF := Lib.hid (HT'.out.trans (if_pos he))
        clear HT'
        go_enter Try.func89, Try.ntmps89
        go_wp2_with fail
        (obtain ⟨w0, hw0⟩ : ∃ w0, w0 = World.alloc w (.cells #[.int .u8 0, str []] 73) := ⟨_, rfl⟩); (have hbox_w0 : Box w0 (w).heap.size 73 #[.int .u8 0, str []] := by rw [hw0]; exact Box.new _ _ _); (have hE_w0 : Ext w w0 := by rw [hw0]; exact Ext.al _ _); (have hz_w0 : (w0).heap.size = (w).heap.size + 1 := by rw [hw0]; simp); rw [← hw0]; clear hw0
        rw [hS] at hbox_w0
        refine (C.out _).mono ?_
        rintro _ w1 ⟨rfl, hb1⟩
        have bR2 := hbox_w0.ext hb1
        have hX2 := hE_w0.trans' hb1
        have r0 := bR2.cell 0
        have r1 := bR2.cell 1
        have rf := bR2.frozen
        simp only [List.getElem?_toArray, List.getElem?_cons_zero, List.getElem?_cons_succ] at r0 r1
        (try dsimp only); (repeat (first | go_values | go_skip | go_guarded | go_step | go_upon)); (try simp only [Exit.inBlock, Exit.then])
        exact fr_ret rfl rfl rfl rfl rfl (bR2.put2' _ _) (by rw [HF.out]; exact FrPost.bad e (Below.put2' hX2 (Nat.le_of_eq hS) _ _))
end Go.Proofs.Yteplpgknnlehnaa
