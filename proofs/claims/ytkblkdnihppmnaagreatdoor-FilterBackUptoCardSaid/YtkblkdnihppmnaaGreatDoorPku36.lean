/- Parts of this work, one behind the other: Rfe. -/
import Derived.Test.YtkblkdnihppmnaaGreatDoorPku32
import Derived.Test.YtkblkdnihppmnaaGreatDoorPku1
/- Filters (layer 21): the document's reader (walk): all, any. -/
namespace Go.Proofs.YtkblkdnihppmnaaGreatDoor
set_option linter.unusedSimpArgs false
set_option linter.unusedVariables false
open Go.RowKit Res Filt

/-- what a part of the reader hands back: the filter's nodes behind those that were there, or that something is wrong -/
def RxPost (S : Nat → Prop) (s : List UInt8) (g p : Nat) (d : Int) (w0 : World) (out : List FN) (K : Nat) : Filt.Res → World → Prop
  | .ok n q, w' => q ≤ s.length ∧ p + (flat n).length ≤ q ∧ ∃ A c, Mem S w0 [rx g s q false 0 A (out ++ flat n).length c d, ro A c (out ++ flat n)] w'
  | .fail a, w' => ∃ (q : Nat) (A : Option Addr) (c : Nat) (out' : List FN), q ≤ s.length ∧ out'.length ≤ s.length + K ∧ Mem S w0 [rx g s q true a A out'.length c d, ro A c out'] w'
def RAt (f : FuncId) (nt : NT) (s : List UInt8) (d K : Nat) : Prop :=
  ∀ (S : Nat → Prop) (g p : Nat) (A : Option Addr) (c : Nat) (out : List FN) (w0 w : World), p ≤ s.length → out.length ≤ p → Mem S w0 [rx g s p false 0 A out.length c (d : Int), ro A c out] w →
    Calls Tryz.prog f #[.pointer (some ⟨g, 0, none⟩)] w fun e w' => e = .returned (.tuple #[]) ∧ ∃ r, Reads (lang s) false nt d p r ∧ RxPost S s g p (d : Int) w0 out K r w'
theorem nodeElem : ElemOf Tryz.prog 27 63 5 48 := elemOf_mk Tryz.underlying27 (z := .agg #[fi 0, fi 0, fi 0, fi 0, str []]) (by kernel_rfl) rfl (by decide)
theorem fnV_one : ∀ (x : FN) (u : Value), u ∈ fnV x → u.oneCell' = true := by
  intro x u h
  cases x <;> (simp only [fnV, List.mem_cons, List.not_mem_nil, or_false] at h; rcases h with rfl | rfl | rfl | rfl | rfl <;> rfl)
theorem fnV_len (x : FN) : (fnV x).length = 5 := by cases x <;> rfl
def measR (g n : Nat) (wr : World) : Nat := match wr.cell? ⟨g, 2, none⟩ with
  | some (.bool true) => 0
  | _ => n + 1 - (intOf ((wr.cell? ⟨g, 1, none⟩).getD undef)).toNat
theorem measR_good {S : Nat → Prop} {w0 w : World} {g : Nat} {s : List UInt8} {q : Nat} {is_ d : Int} {A : Option Addr} {n c k : Nat} {l : List Res} {F : Res → List Res} (M : Mem S w0 l w) (P : Pick l (rx g s q false is_ A n c d) F) : measR g k w = k + 1 - q := by
  have h1 := M.at_ P 1 _ rfl
  have h2 := M.at_ P 2 _ rfl
  unfold measR
  rw [h1, h2]
  simp [intOf]
theorem measR_bad {S : Nat → Prop} {w0 w : World} {g : Nat} {s : List UInt8} {q : Nat} {is_ d : Int} {A : Option Addr} {n c k : Nat} {l : List Res} {F : Res → List Res} (M : Mem S w0 l w) (P : Pick l (rx g s q true is_ A n c d) F) : measR g k w = 0 := by
  have h2 := M.at_ P 2 _ rfl
  unfold measR
  rw [h2]
/-- at a loop's head: a filter so far, or something is wrong -/
def LRel (nt : NT) (more : Nd → NT) (S : Nat → Prop) (s : List UInt8) (g p d : Nat) (w0 : World) (out : List FN) (K : Nat) (wr : World) : Prop :=
  (∃ (acc : Nd) (q : Nat) (A : Option Addr) (c : Nat), q ≤ s.length ∧ p + (flat acc).length ≤ q ∧ Hid (∀ r, Reads (lang s) false (more acc) d q r → Reads (lang s) false nt d p r) ∧ Mem S w0 [rx g s q false 0 A (out ++ flat acc).length c (d : Int), ro A c (out ++ flat acc)] wr) ∨
  (∃ (a q : Nat) (A : Option Addr) (c : Nat) (out' : List FN), Hid (Reads (lang s) false nt d p (.fail a)) ∧ q ≤ s.length ∧ out'.length ≤ s.length + K ∧ Mem S w0 [rx g s q true a A out'.length c (d : Int), ro A c out'] wr)
set_option maxRecDepth 100000 in
set_option maxHeartbeats 800000 in
theorem rall_of (s : List UInt8) (hs : s.length ≤ 1048576) (d K : Nat) (hK : K ≤ 1000) (hone : RAt 50 .one s d K) : RAt 42 .all s d (K + 1) := by
  intro S gr p A c out w0 w hp hout M
  have HO : Hid (∀ (p : Nat) (A : Option Addr) (c : Nat) (out : List FN) (w : World), p ≤ s.length → out.length ≤ p → Mem S w0 [rx gr s p false 0 A out.length c (d : Int), ro A c out] w → Calls Tryz.prog 50 #[.pointer (some ⟨gr, 0, none⟩)] w fun e w' => e = .returned (.tuple #[]) ∧ ∃ r, Reads (lang s) false .one d p r ∧ RxPost S s gr p (d : Int) w0 out K r w') := Lib.hid (fun p A c out w hp ho M => hone S gr p A c out w0 w hp ho M)
  have HY : Hid (∀ (p : Nat) (A : Option Addr) (c n : Nat) (w0 w : World) (S : Nat → Prop), p ≤ s.length → isWord s p wAnd → Mem S w0 [rx gr s p false 0 A n c (d : Int)] w → Calls Tryz.prog 43 #[.pointer (some ⟨gr, 0, none⟩), .string ⟨#[97, 110, 100]⟩] w fun e w' => e = .returned (.bool true) ∧ Mem S w0 [rx gr s ((lex s p).next : Nat) false 0 A n c (d : Int)] w') := Lib.hid (fun p A c n w0 w S hp hb M => takes_yes s hs wAnd gr p hp 0 d A n c hb M)
  have HZ : Hid (∀ (p : Nat) (A : Option Addr) (c n : Nat) (w0 w : World) (S : Nat → Prop), p ≤ s.length → ¬ isWord s p wAnd → Mem S w0 [rx gr s p false 0 A n c (d : Int)] w → Calls Tryz.prog 43 #[.pointer (some ⟨gr, 0, none⟩), .string ⟨#[97, 110, 100]⟩] w fun e w' => e = .returned (.bool false) ∧ Mem S w0 [rx gr s (p : Int) false 0 A n c (d : Int)] w') := Lib.hid (fun p A c n w0 w S hp hb M => takes_no s hs wAnd gr p hp 0 d A n c hb M)
  clear hone
  go_enter Tryz.func42, Tryz.ntmps42
  (try dsimp only); (repeat (first | (first | (go_at_call 50; (with_reducible refine (HO.out _ _ _ _ _ hp hout M).mono ?_); rintro _ w1 ⟨rfl, r, hr, hx⟩; dsimp only) | ((with_reducible refine on_load ?_); (first | refine xl1 M ?_ | refine xlN M ?_); go_big_move) | ((with_reducible refine on_store ?_); (first | refine xs1 M ?_ | refine xsN M ?_); clear M; intro w' M; (try simp only [List.set_cons_zero, List.set_cons_succ] at M)) | ((with_reducible refine on_box ?_); refine xb M ?_; clear M; intro g w' M; go_big_move) | ((with_reducible refine on_alloc ?_); refine xa M ?_; clear M; intro g w' M; go_big_move)) | go_values | go_skip | go_guarded | go_step | go_upon))
  have HL : LRel .all .allMore S s gr p d w0 out (K + 1) w1 := by
    cases r with
    | ok n q =>
      obtain ⟨h1, h2, A', c', h3⟩ := hx
      exact .inl ⟨n, q, A', c', h1, h2, Lib.hid (fun r h => Reads.allOk hr h), h3⟩
    | fail a =>
      obtain ⟨q, A', c', out', h1, h2, h3⟩ := hx
      exact .inr ⟨a, q, A', c', out', Lib.hid (Reads.allFail hr), h1, by omega, h3⟩
  clear hx hr M
  go_loopw [] (fun wr => LRel .all .allMore S s gr p d w0 out (K + 1) wr) (fun wr => measR gr s.length wr)
  · exact HL
  · clear HL
    rcases hrel with ⟨acc, q, A1, c1, hq, hpq, HP, M⟩ | ⟨a, q, A1, c1, out1, HP, hq, ho1, M⟩
    · have hm0 := measR_good (k := s.length) M Pick.head
      by_cases hw : isWord s q wAnd
      · have HW := Lib.hid hw
        have hqn : q < (lex s q).next := word_gt hw
        have hbk : (lex s q).kind ≠ .bad := by rcases hw.1 with h | h <;> (rw [h]; simp)
        have hqs : (lex s q).next ≤ s.length := (next_le hq hbk).2
        have hlo : (out ++ flat acc).length ≤ (lex s q).next := by rw [List.length_append]; omega
        (try dsimp only); (repeat (first | (first | (go_at_call 43; (with_reducible refine (HY.out _ _ _ _ _ _ _ hq HW.out (M.only (by (repeat (first | exact Takes.nil | exact Take.head | apply Take.tail | apply Takes.cons)); done))).mono ?_); rintro _ w2 ⟨rfl, M1⟩; replace M := M.into (by (repeat (first | exact Takes.nil | exact Take.head | apply Take.tail | apply Takes.cons)); done) M1; clear M1; dsimp only [List.cons_append, List.nil_append] at M; dsimp only) | (go_at_call 50; (with_reducible refine (HO.out _ _ _ _ _ hqs hlo M).mono ?_); rintro _ w3 ⟨rfl, r, hr, hx⟩; clear M; dsimp only; refine Hid.out ?_) | ((with_reducible refine wl_g ?_); first | go_big_want | go_skip | ((with_reducible refine wl_off (by kernel_rfl) ?_); (first | ((with_reducible refine fastK Tryz.prog rfl ?_); go_big_move) | (with_reducible refine fastN rfl ?_) | skip))) | ((with_reducible refine on_load ?_); (first | refine xl1 M ?_ | refine xlN M ?_); go_big_move) | ((with_reducible refine on_store ?_); (first | refine xs1 M ?_ | refine xsN M ?_); clear M; intro w' M; (try simp only [List.set_cons_zero, List.set_cons_succ] at M)) | ((with_reducible refine on_box ?_); refine xb M ?_; clear M; intro g w' M; go_big_move) | ((with_reducible refine on_alloc ?_); refine xa M ?_; clear M; intro g w' M; go_big_move)) | go_values | go_skip | go_guarded | go_step | go_upon))
        cases r with
        | ok m q3 =>
          obtain ⟨hq3, hpq3, A3, c3, M⟩ := hx
          refine Lib.hid ?_
          have e : out ++ flat (Nd.all acc m) = (out ++ flat acc ++ flat m) ++ [FN.all] := by
            show out ++ (flat acc ++ flat m ++ [FN.all]) = _
            simp only [List.append_assoc]
          have E := Lib.hid e
          have hfl : (flat (Nd.all acc m)).length = (flat acc).length + (flat m).length + 1 := by
            show (flat acc ++ flat m ++ [FN.all]).length = _
            simp only [List.length_append, List.length_cons, List.length_nil]
          have hll : (out ++ flat acc ++ flat m).length ≤ 2000000 := by simp only [List.length_append]; omega
          clear e
          obtain ⟨L, hL⟩ : ∃ L, L = out ++ flat acc ++ flat m := ⟨_, rfl⟩
          rw [← hL] at M E hll
          have HN : Hid (∀ r, Reads (lang s) false (.allMore (Nd.all acc m)) d q3 r → Reads (lang s) false .all d p r) := Lib.hid (fun r h => HP.out r (Reads.allMore hw adv_lazy hr h))
          clear hL hr hw
          (try dsimp only); (repeat (first | (first | ((with_reducible refine on_single ?_); refine x1 M nodeElem ?_; clear M; intro g w' M; go_big_move) | ((with_reducible refine on_append ?_); refine xap M nodeElem FN.all fnV_len fnV_one ?_; clear M; intro A' c' w' M; go_big_move) | ((with_reducible refine wl_g ?_); first | go_big_want | go_skip | ((with_reducible refine wl_off (by kernel_rfl) ?_); (first | ((with_reducible refine fastK Tryz.prog rfl ?_); go_big_move) | (with_reducible refine fastN rfl ?_) | skip))) | ((with_reducible refine on_load ?_); (first | refine xl1 M ?_ | refine xlN M ?_); go_big_move) | ((with_reducible refine on_store ?_); (first | refine xs1 M ?_ | refine xsN M ?_); clear M; intro w' M; (try simp only [List.set_cons_zero, List.set_cons_succ] at M)) | ((with_reducible refine on_box ?_); refine xb M ?_; clear M; intro g w' M; go_big_move) | ((with_reducible refine on_alloc ?_); refine xa M ?_; clear M; intro g w' M; go_big_move)) | go_values | go_skip | go_guarded | go_step | go_upon))
          have M2 := M.sub (rs := [rx gr s q3 false 0 _ _ _ _, ro _ _ _]) (by (repeat (first | exact Takes.nil | exact Take.head | apply Take.tail | apply Takes.cons)); done)
          have M3 := M2
          rw [show L.length + 1 = (L ++ [FN.all]).length by simp, ← E.out] at M3
          refine ⟨.inl ⟨Nd.all acc m, q3, _, _, hq3, by omega, HN, M3⟩, ?_⟩
          rw [hm0, measR_good (k := s.length) M2 Pick.head]
          omega
        | fail a =>
          obtain ⟨q3, A3, c3, out3, hq3, hl3, M⟩ := hx
          refine Lib.hid ?_
          have HN : Hid (Reads (lang s) false .all d p (.fail a)) := Lib.hid (HP.out _ (Reads.allNo hw adv_lazy hr))
          have hll : out3.length ≤ 2000000 := by omega
          clear hr hw
          (try dsimp only); (repeat (first | (first | ((with_reducible refine on_single ?_); refine x1 M nodeElem ?_; clear M; intro g w' M; go_big_move) | ((with_reducible refine on_append ?_); refine xap M nodeElem FN.all fnV_len fnV_one ?_; clear M; intro A' c' w' M; go_big_move) | ((with_reducible refine wl_g ?_); first | go_big_want | go_skip | ((with_reducible refine wl_off (by kernel_rfl) ?_); (first | ((with_reducible refine fastK Tryz.prog rfl ?_); go_big_move) | (with_reducible refine fastN rfl ?_) | skip))) | ((with_reducible refine on_load ?_); (first | refine xl1 M ?_ | refine xlN M ?_); go_big_move) | ((with_reducible refine on_store ?_); (first | refine xs1 M ?_ | refine xsN M ?_); clear M; intro w' M; (try simp only [List.set_cons_zero, List.set_cons_succ] at M)) | ((with_reducible refine on_box ?_); refine xb M ?_; clear M; intro g w' M; go_big_move) | ((with_reducible refine on_alloc ?_); refine xa M ?_; clear M; intro g w' M; go_big_move)) | go_values | go_skip | go_guarded | go_step | go_upon))
          have M2 := M.sub (rs := [rx gr s q3 true a _ _ _ _, ro _ _ _]) (by (repeat (first | exact Takes.nil | exact Take.head | apply Take.tail | apply Takes.cons)); done)
          have M3 := M2
          rw [show out3.length + 1 = (out3 ++ [FN.all]).length by simp] at M3
          refine ⟨.inr ⟨a, q3, _, _, out3 ++ [FN.all], HN, hq3, by simp; omega, M3⟩, ?_⟩
          rw [hm0, measR_bad (k := s.length) M2 Pick.head]
          omega
      · have HW := Lib.hid hw
        have HN : Hid (Reads (lang s) false .all d p (.ok acc q)) := Lib.hid (HP.out _ (Reads.allEnd hw))
        clear hw
        (try dsimp only); (repeat (first | (first | (go_at_call 43; (with_reducible refine (HZ.out _ _ _ _ _ _ _ hq HW.out (M.only (by (repeat (first | exact Takes.nil | exact Take.head | apply Take.tail | apply Takes.cons)); done))).mono ?_); rintro _ w2 ⟨rfl, M1⟩; replace M := M.into (by (repeat (first | exact Takes.nil | exact Take.head | apply Take.tail | apply Takes.cons)); done) M1; clear M1; dsimp only [List.cons_append, List.nil_append] at M; dsimp only) | ((with_reducible refine wl_g ?_); first | go_big_want | go_skip | ((with_reducible refine wl_off (by kernel_rfl) ?_); (first | ((with_reducible refine fastK Tryz.prog rfl ?_); go_big_move) | (with_reducible refine fastN rfl ?_) | skip))) | ((with_reducible refine on_load ?_); (first | refine xl1 M ?_ | refine xlN M ?_); go_big_move) | ((with_reducible refine on_store ?_); (first | refine xs1 M ?_ | refine xsN M ?_); clear M; intro w' M; (try simp only [List.set_cons_zero, List.set_cons_succ] at M)) | ((with_reducible refine on_box ?_); refine xb M ?_; clear M; intro g w' M; go_big_move) | ((with_reducible refine on_alloc ?_); refine xa M ?_; clear M; intro g w' M; go_big_move)) | go_values | go_skip | go_guarded | go_step | go_upon))
        exact ret_n0 rfl rfl ⟨rfl, _, HN.out, hq, hpq, _, _, M⟩
    · (try dsimp only); (repeat (first | (first | ((with_reducible refine wl_g ?_); first | go_big_want | go_skip | ((with_reducible refine wl_off (by kernel_rfl) ?_); (first | ((with_reducible refine fastK Tryz.prog rfl ?_); go_big_move) | (with_reducible refine fastN rfl ?_) | skip))) | ((with_reducible refine on_load ?_); (first | refine xl1 M ?_ | refine xlN M ?_); go_big_move) | ((with_reducible refine on_store ?_); (first | refine xs1 M ?_ | refine xsN M ?_); clear M; intro w' M; (try simp only [List.set_cons_zero, List.set_cons_succ] at M)) | ((with_reducible refine on_box ?_); refine xb M ?_; clear M; intro g w' M; go_big_move) | ((with_reducible refine on_alloc ?_); refine xa M ?_; clear M; intro g w' M; go_big_move)) | go_values | go_skip | go_guarded | go_step | go_upon))
      exact ret_n0 rfl rfl ⟨rfl, _, HP.out, q, _, _, _, hq, ho1, M⟩
set_option maxRecDepth 100000 in
set_option maxHeartbeats 800000 in
theorem rany_of (s : List UInt8) (hs : s.length ≤ 1048576) (d K : Nat) (hK : K ≤ 1000) (hone : RAt 42 .all s d K) : RAt 20 .any s d (K + 1) := by
  intro S gr p A c out w0 w hp hout M
  have HO : Hid (∀ (p : Nat) (A : Option Addr) (c : Nat) (out : List FN) (w : World), p ≤ s.length → out.length ≤ p → Mem S w0 [rx gr s p false 0 A out.length c (d : Int), ro A c out] w → Calls Tryz.prog 42 #[.pointer (some ⟨gr, 0, none⟩)] w fun e w' => e = .returned (.tuple #[]) ∧ ∃ r, Reads (lang s) false .all d p r ∧ RxPost S s gr p (d : Int) w0 out K r w') := Lib.hid (fun p A c out w hp ho M => hone S gr p A c out w0 w hp ho M)
  have HY : Hid (∀ (p : Nat) (A : Option Addr) (c n : Nat) (w0 w : World) (S : Nat → Prop), p ≤ s.length → isWord s p wOr → Mem S w0 [rx gr s p false 0 A n c (d : Int)] w → Calls Tryz.prog 43 #[.pointer (some ⟨gr, 0, none⟩), .string ⟨#[111, 114]⟩] w fun e w' => e = .returned (.bool true) ∧ Mem S w0 [rx gr s ((lex s p).next : Nat) false 0 A n c (d : Int)] w') := Lib.hid (fun p A c n w0 w S hp hb M => takes_yes s hs wOr gr p hp 0 d A n c hb M)
  have HZ : Hid (∀ (p : Nat) (A : Option Addr) (c n : Nat) (w0 w : World) (S : Nat → Prop), p ≤ s.length → ¬ isWord s p wOr → Mem S w0 [rx gr s p false 0 A n c (d : Int)] w → Calls Tryz.prog 43 #[.pointer (some ⟨gr, 0, none⟩), .string ⟨#[111, 114]⟩] w fun e w' => e = .returned (.bool false) ∧ Mem S w0 [rx gr s (p : Int) false 0 A n c (d : Int)] w') := Lib.hid (fun p A c n w0 w S hp hb M => takes_no s hs wOr gr p hp 0 d A n c hb M)
  clear hone
  go_enter Tryz.func20, Tryz.ntmps20
  (try dsimp only); (repeat (first | (first | (go_at_call 42; (with_reducible refine (HO.out _ _ _ _ _ hp hout M).mono ?_); rintro _ w1 ⟨rfl, r, hr, hx⟩; dsimp only) | ((with_reducible refine on_load ?_); (first | refine xl1 M ?_ | refine xlN M ?_); go_big_move) | ((with_reducible refine on_store ?_); (first | refine xs1 M ?_ | refine xsN M ?_); clear M; intro w' M; (try simp only [List.set_cons_zero, List.set_cons_succ] at M)) | ((with_reducible refine on_box ?_); refine xb M ?_; clear M; intro g w' M; go_big_move) | ((with_reducible refine on_alloc ?_); refine xa M ?_; clear M; intro g w' M; go_big_move)) | go_values | go_skip | go_guarded | go_step | go_upon))
  have HL : LRel .any .anyMore S s gr p d w0 out (K + 1) w1 := by
    cases r with
    | ok n q =>
      obtain ⟨h1, h2, A', c', h3⟩ := hx
      exact .inl ⟨n, q, A', c', h1, h2, Lib.hid (fun r h => Reads.anyOk hr h), h3⟩
    | fail a =>
      obtain ⟨q, A', c', out', h1, h2, h3⟩ := hx
      exact .inr ⟨a, q, A', c', out', Lib.hid (Reads.anyFail hr), h1, by omega, h3⟩
  clear hx hr M
  go_loopw [] (fun wr => LRel .any .anyMore S s gr p d w0 out (K + 1) wr) (fun wr => measR gr s.length wr)
  · exact HL
  · clear HL
    rcases hrel with ⟨acc, q, A1, c1, hq, hpq, HP, M⟩ | ⟨a, q, A1, c1, out1, HP, hq, ho1, M⟩
    · have hm0 := measR_good (k := s.length) M Pick.head
      by_cases hw : isWord s q wOr
      · have HW := Lib.hid hw
        have hqn : q < (lex s q).next := word_gt hw
        have hbk : (lex s q).kind ≠ .bad := by rcases hw.1 with h | h <;> (rw [h]; simp)
        have hqs : (lex s q).next ≤ s.length := (next_le hq hbk).2
        have hlo : (out ++ flat acc).length ≤ (lex s q).next := by rw [List.length_append]; omega
        (try dsimp only); (repeat (first | (first | (go_at_call 43; (with_reducible refine (HY.out _ _ _ _ _ _ _ hq HW.out (M.only (by (repeat (first | exact Takes.nil | exact Take.head | apply Take.tail | apply Takes.cons)); done))).mono ?_); rintro _ w2 ⟨rfl, M1⟩; replace M := M.into (by (repeat (first | exact Takes.nil | exact Take.head | apply Take.tail | apply Takes.cons)); done) M1; clear M1; dsimp only [List.cons_append, List.nil_append] at M; dsimp only) | (go_at_call 42; (with_reducible refine (HO.out _ _ _ _ _ hqs hlo M).mono ?_); rintro _ w3 ⟨rfl, r, hr, hx⟩; clear M; dsimp only; refine Hid.out ?_) | ((with_reducible refine wl_g ?_); first | go_big_want | go_skip | ((with_reducible refine wl_off (by kernel_rfl) ?_); (first | ((with_reducible refine fastK Tryz.prog rfl ?_); go_big_move) | (with_reducible refine fastN rfl ?_) | skip))) | ((with_reducible refine on_load ?_); (first | refine xl1 M ?_ | refine xlN M ?_); go_big_move) | ((with_reducible refine on_store ?_); (first | refine xs1 M ?_ | refine xsN M ?_); clear M; intro w' M; (try simp only [List.set_cons_zero, List.set_cons_succ] at M)) | ((with_reducible refine on_box ?_); refine xb M ?_; clear M; intro g w' M; go_big_move) | ((with_reducible refine on_alloc ?_); refine xa M ?_; clear M; intro g w' M; go_big_move)) | go_values | go_skip | go_guarded | go_step | go_upon))
        cases r with
        | ok m q3 =>
          obtain ⟨hq3, hpq3, A3, c3, M⟩ := hx
          refine Lib.hid ?_
          have e : out ++ flat (Nd.any acc m) = (out ++ flat acc ++ flat m) ++ [FN.any] := by
            show out ++ (flat acc ++ flat m ++ [FN.any]) = _
            simp only [List.append_assoc]
          have E := Lib.hid e
          have hfl : (flat (Nd.any acc m)).length = (flat acc).length + (flat m).length + 1 := by
            show (flat acc ++ flat m ++ [FN.any]).length = _
            simp only [List.length_append, List.length_cons, List.length_nil]
          have hll : (out ++ flat acc ++ flat m).length ≤ 2000000 := by simp only [List.length_append]; omega
          clear e
          obtain ⟨L, hL⟩ : ∃ L, L = out ++ flat acc ++ flat m := ⟨_, rfl⟩
          rw [← hL] at M E hll
          have HN : Hid (∀ r, Reads (lang s) false (.anyMore (Nd.any acc m)) d q3 r → Reads (lang s) false .any d p r) := Lib.hid (fun r h => HP.out r (Reads.anyMore hw adv_lazy hr h))
          clear hL hr hw
          (try dsimp only); (repeat (first | (first | ((with_reducible refine on_single ?_); refine x1 M nodeElem ?_; clear M; intro g w' M; go_big_move) | ((with_reducible refine on_append ?_); refine xap M nodeElem FN.any fnV_len fnV_one ?_; clear M; intro A' c' w' M; go_big_move) | ((with_reducible refine wl_g ?_); first | go_big_want | go_skip | ((with_reducible refine wl_off (by kernel_rfl) ?_); (first | ((with_reducible refine fastK Tryz.prog rfl ?_); go_big_move) | (with_reducible refine fastN rfl ?_) | skip))) | ((with_reducible refine on_load ?_); (first | refine xl1 M ?_ | refine xlN M ?_); go_big_move) | ((with_reducible refine on_store ?_); (first | refine xs1 M ?_ | refine xsN M ?_); clear M; intro w' M; (try simp only [List.set_cons_zero, List.set_cons_succ] at M)) | ((with_reducible refine on_box ?_); refine xb M ?_; clear M; intro g w' M; go_big_move) | ((with_reducible refine on_alloc ?_); refine xa M ?_; clear M; intro g w' M; go_big_move)) | go_values | go_skip | go_guarded | go_step | go_upon))
          have M2 := M.sub (rs := [rx gr s q3 false 0 _ _ _ _, ro _ _ _]) (by (repeat (first | exact Takes.nil | exact Take.head | apply Take.tail | apply Takes.cons)); done)
          have M3 := M2
          rw [show L.length + 1 = (L ++ [FN.any]).length by simp, ← E.out] at M3
          refine ⟨.inl ⟨Nd.any acc m, q3, _, _, hq3, by omega, HN, M3⟩, ?_⟩
          rw [hm0, measR_good (k := s.length) M2 Pick.head]
          omega
        | fail a =>
          obtain ⟨q3, A3, c3, out3, hq3, hl3, M⟩ := hx
          refine Lib.hid ?_
          have HN : Hid (Reads (lang s) false .any d p (.fail a)) := Lib.hid (HP.out _ (Reads.anyNo hw adv_lazy hr))
          have hll : out3.length ≤ 2000000 := by omega
          clear hr hw
          (try dsimp only); (repeat (first | (first | ((with_reducible refine on_single ?_); refine x1 M nodeElem ?_; clear M; intro g w' M; go_big_move) | ((with_reducible refine on_append ?_); refine xap M nodeElem FN.any fnV_len fnV_one ?_; clear M; intro A' c' w' M; go_big_move) | ((with_reducible refine wl_g ?_); first | go_big_want | go_skip | ((with_reducible refine wl_off (by kernel_rfl) ?_); (first | ((with_reducible refine fastK Tryz.prog rfl ?_); go_big_move) | (with_reducible refine fastN rfl ?_) | skip))) | ((with_reducible refine on_load ?_); (first | refine xl1 M ?_ | refine xlN M ?_); go_big_move) | ((with_reducible refine on_store ?_); (first | refine xs1 M ?_ | refine xsN M ?_); clear M; intro w' M; (try simp only [List.set_cons_zero, List.set_cons_succ] at M)) | ((with_reducible refine on_box ?_); refine xb M ?_; clear M; intro g w' M; go_big_move) | ((with_reducible refine on_alloc ?_); refine xa M ?_; clear M; intro g w' M; go_big_move)) | go_values | go_skip | go_guarded | go_step | go_upon))
          have M2 := M.sub (rs := [rx gr s q3 true a _ _ _ _, ro _ _ _]) (by (repeat (first | exact Takes.nil | exact Take.head | apply Take.tail | apply Takes.cons)); done)
          have M3 := M2
          rw [show out3.length + 1 = (out3 ++ [FN.any]).length by simp] at M3
          refine ⟨.inr ⟨a, q3, _, _, out3 ++ [FN.any], HN, hq3, by simp; omega, M3⟩, ?_⟩
          rw [hm0, measR_bad (k := s.length) M2 Pick.head]
          omega
      · have HW := Lib.hid hw
        have HN : Hid (Reads (lang s) false .any d p (.ok acc q)) := Lib.hid (HP.out _ (Reads.anyEnd hw))
        clear hw
        (try dsimp only); (repeat (first | (first | (go_at_call 43; (with_reducible refine (HZ.out _ _ _ _ _ _ _ hq HW.out (M.only (by (repeat (first | exact Takes.nil | exact Take.head | apply Take.tail | apply Takes.cons)); done))).mono ?_); rintro _ w2 ⟨rfl, M1⟩; replace M := M.into (by (repeat (first | exact Takes.nil | exact Take.head | apply Take.tail | apply Takes.cons)); done) M1; clear M1; dsimp only [List.cons_append, List.nil_append] at M; dsimp only) | ((with_reducible refine wl_g ?_); first | go_big_want | go_skip | ((with_reducible refine wl_off (by kernel_rfl) ?_); (first | ((with_reducible refine fastK Tryz.prog rfl ?_); go_big_move) | (with_reducible refine fastN rfl ?_) | skip))) | ((with_reducible refine on_load ?_); (first | refine xl1 M ?_ | refine xlN M ?_); go_big_move) | ((with_reducible refine on_store ?_); (first | refine xs1 M ?_ | refine xsN M ?_); clear M; intro w' M; (try simp only [List.set_cons_zero, List.set_cons_succ] at M)) | ((with_reducible refine on_box ?_); refine xb M ?_; clear M; intro g w' M; go_big_move) | ((with_reducible refine on_alloc ?_); refine xa M ?_; clear M; intro g w' M; go_big_move)) | go_values | go_skip | go_guarded | go_step | go_upon))
        exact ret_n0 rfl rfl ⟨rfl, _, HN.out, hq, hpq, _, _, M⟩
    · (try dsimp only); (repeat (first | (first | ((with_reducible refine wl_g ?_); first | go_big_want | go_skip | ((with_reducible refine wl_off (by kernel_rfl) ?_); (first | ((with_reducible refine fastK Tryz.prog rfl ?_); go_big_move) | (with_reducible refine fastN rfl ?_) | skip))) | ((with_reducible refine on_load ?_); (first | refine xl1 M ?_ | refine xlN M ?_); go_big_move) | ((with_reducible refine on_store ?_); (first | refine xs1 M ?_ | refine xsN M ?_); clear M; intro w' M; (try simp only [List.set_cons_zero, List.set_cons_succ] at M)) | ((with_reducible refine on_box ?_); refine xb M ?_; clear M; intro g w' M; go_big_move) | ((with_reducible refine on_alloc ?_); refine xa M ?_; clear M; intro g w' M; go_big_move)) | go_values | go_skip | go_guarded | go_step | go_upon))
      exact ret_n0 rfl rfl ⟨rfl, _, HP.out, q, _, _, _, hq, ho1, M⟩
end Go.Proofs.YtkblkdnihppmnaaGreatDoor
