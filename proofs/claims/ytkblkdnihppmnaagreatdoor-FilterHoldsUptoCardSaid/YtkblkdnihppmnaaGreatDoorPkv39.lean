/- Parts of this work, one behind the other: Rfr, Rfv, FiltZc. -/
import Derived.Test.YtkblkdnihppmnaaGreatDoorPkv37
import Derived.Test.YtkblkdnihppmnaaGreatDoorPkv38
import Derived.Test.YtkblkdnihppmnaaGreatDoorPkv2
import Derived.Test.YtkblkdnihppmnaaGreatDoorPkv28
import Derived.Test.YtkblkdnihppmnaaGreatDoorPkv36
/- Filters (layer 21): the document's Holds, of the nodes of a filter that was read, or of none (walk). -/
namespace Go.Proofs.YtkblkdnihppmnaaGreatDoor
set_option linter.unusedSimpArgs false
set_option linter.unusedVariables false
open Go.RowKit Res Filt

theorem flat_ne (n : Nd) : flat n ≠ [] := by cases n <;> simp [flat]
theorem flat_ok : ∀ {n : Nd}, Valid n → ∀ x ∈ flat n, FOk x
  | .num f k n, h, x, hx => by
    obtain rfl := List.mem_singleton.1 hx
    exact ⟨h.1, h.2.1⟩
  | .idt k s, h, x, hx => by
    obtain rfl := List.mem_singleton.1 hx
    exact h.1
  | .not n, h, x, hx => by
    rcases List.mem_append.1 hx with hx | hx
    · exact flat_ok (n := n) h x hx
    · obtain rfl := List.mem_singleton.1 hx
      trivial
  | .all a b, h, x, hx => by
    rcases List.mem_append.1 hx with hx | hx
    · rcases List.mem_append.1 hx with hx | hx
      · exact flat_ok (n := a) h.1 x hx
      · exact flat_ok (n := b) h.2 x hx
    · obtain rfl := List.mem_singleton.1 hx
      trivial
  | .any a b, h, x, hx => by
    rcases List.mem_append.1 hx with hx | hx
    · rcases List.mem_append.1 hx with hx | hx
      · exact flat_ok (n := a) h.1 x hx
      · exact flat_ok (n := b) h.2 x hx
    · obtain rfl := List.mem_singleton.1 hx
      trivial
theorem flat_len : ∀ n : Nd, (flat n).length = n.size
  | .num _ _ _ => rfl
  | .idt _ _ => rfl
  | .not n => by simp [flat, Nd.size, flat_len n]
  | .all a b => by simp only [flat, List.length_append, List.length_singleton, flat_len a, flat_len b, Nd.size]
  | .any a b => by simp only [flat, List.length_append, List.length_singleton, flat_len a, flat_len b, Nd.size]
theorem row_cells {S : Nat → Prop} {w0 w : World} {l : List Res} {F : Res → List Res} {g c : Nat} {xs : List FN} (M : Mem S w0 l w) (p : Pick l (ow 63 fnV 5 (some ⟨g, 0, none⟩) c xs) F) :
    ∀ k x, xs[k]? = some x → ∀ j u, (fnV x)[j]? = some u → w.cell? ⟨g, k * 5 + j, none⟩ = some u := fun _ _ hx _ _ hu => M.cellO fnV_len p hx hu
theorem row_lt {S : Nat → Prop} {w0 w : World} {l : List Res} {F : Res → List Res} {g c : Nat} {xs : List FN} (hx : xs ≠ []) (M : Mem S w0 l w) (p : Pick l (ow 63 fnV 5 (some ⟨g, 0, none⟩) c xs) F) : g < w.heap.size := by
  cases xs with
  | nil => exact absurd rfl hx
  | cons x xs =>
    have hl : 0 < (fnV x).length := by rw [fnV_len]; decide
    exact block_lt_of_cell (row_cells M p 0 x rfl 0 _ (List.getElem?_eq_getElem hl))
/-- the document's Holds of a filter's nodes that lie in the call's own memory -/
theorem rholds_row (a : Abt) (n : Nd) (hv : Valid n) (hs : n.size ≤ 1000000) {S : Nat → Prop} {w0 w : World} {l : List Res} {F : Res → List Res} {A : Option Addr} {c : Nat} (M : Mem S w0 l w) (p : Pick l (ow 63 fnV 5 A c (flat n)) F) :
    Calls Tryz.prog 12 #[.slice A (flat n).length c, .agg #[fi a.a0, fi a.a1, fi a.a2, str a.id, fi a.a4, fi a.a5, fi a.a6, fi a.a7, fi a.a8, fi a.a9, fi a.a10, fi a.a11, fi a.a12, fi a.a13, fi a.a14, fi a.a15, fi a.a16]] w fun e w' => e = .returned (.bool (holdsOf (numB a) (idtB a) n)) ∧ Ext w w' := by
  obtain ⟨g, rfl⟩ := M.some_of p (flat_ne n)
  exact rHolds_some a (flat n) (flat_ok hv) _ (runB_flat _ _ n []) g c (by rw [flat_len]; exact hs) w (row_lt (flat_ne n) M p) (row_cells M p)
set_option maxRecDepth 100000 in
set_option maxHeartbeats 800000 in
theorem rholds_nil (a : Abt) (w : World) : Calls Tryz.prog 12 #[.slice none 0 0, .agg #[fi a.a0, fi a.a1, fi a.a2, str a.id, fi a.a4, fi a.a5, fi a.a6, fi a.a7, fi a.a8, fi a.a9, fi a.a10, fi a.a11, fi a.a12, fi a.a13, fi a.a14, fi a.a15, fi a.a16]] w fun e w' => e = .returned (.bool true) ∧ Ext w w' := by
  have M := Mem.start w
  go_enter Tryz.func12, Tryz.ntmps12
  (try dsimp only); (repeat (first | (first | ((with_reducible refine wl_g ?_); first | go_big_want | go_skip | ((with_reducible refine wl_off (by kernel_rfl) ?_); (first | ((with_reducible refine fastK Tryz.prog rfl ?_); go_big_move) | (with_reducible refine fastN rfl ?_) | skip))) | ((with_reducible refine on_load ?_); (first | refine xl1 M ?_ | refine xlN M ?_); go_big_move) | ((with_reducible refine on_store ?_); (first | refine xs1 M ?_ | refine xsN M ?_); clear M; intro w' M; (try simp only [List.set_cons_zero, List.set_cons_succ] at M)) | ((with_reducible refine on_box ?_); refine xb M ?_; clear M; intro g w' M; go_big_move)) | go_values | go_skip | go_guarded | go_step | go_upon))
  go_loopw [5, 6] (fun x y wr => x = .slice none 0 0 ∧ y = fi 0 ∧ ∃ l, Mem (· < w.heap.size) w l wr) (fun _ _ _ => 0)
  · exact ⟨rfl, rfl, _, M⟩
  · clear M
    obtain ⟨rfl, rfl, l, M⟩ := hrel
    (try dsimp only); (repeat (first | (first | ((with_reducible refine wl_g ?_); first | go_big_want | go_skip | ((with_reducible refine wl_off (by kernel_rfl) ?_); (first | ((with_reducible refine fastK Tryz.prog rfl ?_); go_big_move) | (with_reducible refine fastN rfl ?_) | skip))) | ((with_reducible refine on_load ?_); (first | refine xl1 M ?_ | refine xlN M ?_); go_big_move) | ((with_reducible refine on_store ?_); (first | refine xs1 M ?_ | refine xsN M ?_); clear M; intro w' M; (try simp only [List.set_cons_zero, List.set_cons_succ] at M)) | ((with_reducible refine on_box ?_); refine xb M ?_; clear M; intro g w' M; go_big_move)) | go_values | go_skip | go_guarded | go_step | go_upon))
    exact ret_m1 rfl (Out.tmp rfl) rfl ⟨rfl, M.ext_of⟩
end Go.Proofs.YtkblkdnihppmnaaGreatDoor
/- Filters (layer 21): the document's pieces of text, step by step (plain law). -/
namespace Go.Proofs.YtkblkdnihppmnaaGreatDoor
set_option linter.unusedSimpArgs false
set_option linter.unusedVariables false
open Go.RowKit Res Filt

section
variable {num : Nat → Nat → Int → List UInt8} {idt : Nat → List UInt8 → List UInt8}
theorem runT_step {xs : List FN} {r : List (List UInt8 × Nat)} (h : Filt.runT num idt [] xs = some r) {k : Nat} {rb : List (List UInt8 × Nat)} (hk : Filt.runT num idt [] (xs.take k) = some rb) {x : FN} (hx : xs[k]? = some x) : ∃ rb', Filt.stepT num idt rb x = some rb' ∧ Filt.runT num idt [] (xs.take (k + 1)) = some rb' := by
  obtain ⟨hlt, rfl⟩ := List.getElem?_eq_some_iff.1 hx
  have e : xs = xs.take k ++ (xs[k] :: xs.drop (k + 1)) := by rw [← List.drop_eq_getElem_cons hlt, List.take_append_drop]
  rw [e, runT_append, hk] at h
  simp only [Filt.runT] at h
  cases hs : Filt.stepT num idt rb xs[k] with
  | none => rw [hs] at h; cases h
  | some rb' =>
    refine ⟨rb', rfl, ?_⟩
    rw [List.take_add_one, hx, runT_append, hk]
    simp only [Option.toList_some, Filt.runT, hs]
end
/-- a node whose parts are in their bounds -/
def FV : FN → Prop
  | .num f k n => Valid (.num f k n)
  | .idt k s => Valid (.idt k s)
  | _ => True
theorem flat_valid : ∀ {n : Nd}, Valid n → ∀ x ∈ flat n, FV x
  | .num f k n, h, x, hx => by
    obtain rfl := List.mem_singleton.1 hx
    exact h
  | .idt k s, h, x, hx => by
    obtain rfl := List.mem_singleton.1 hx
    exact h
  | .not n, h, x, hx => by
    rcases List.mem_append.1 hx with hx | hx
    · exact flat_valid (n := n) h x hx
    · obtain rfl := List.mem_singleton.1 hx
      trivial
  | .all a b, h, x, hx => by
    rcases List.mem_append.1 hx with hx | hx
    · rcases List.mem_append.1 hx with hx | hx
      · exact flat_valid (n := a) h.1 x hx
      · exact flat_valid (n := b) h.2 x hx
    · obtain rfl := List.mem_singleton.1 hx
      trivial
  | .any a b, h, x, hx => by
    rcases List.mem_append.1 hx with hx | hx
    · rcases List.mem_append.1 hx with hx | hx
      · exact flat_valid (n := a) h.1 x hx
      · exact flat_valid (n := b) h.2 x hx
    · obtain rfl := List.mem_singleton.1 hx
      trivial
/-- the letters of all pieces -/
def sumT : List (List UInt8 × Nat) → Nat
  | [] => 0
  | p :: l => p.1.length + sumT l
theorem brk_len (t : List UInt8) : (brk t).length = t.length + 2 := by simp [brk]
theorem ite_len {c : Prop} [Decidable c] (t : List UInt8) : (if c then brk t else t).length ≤ t.length + 2 := by
  split
  · rw [brk_len]; exact Nat.le_refl _
  · omega
theorem stepT_len {l l' : List (List UInt8 × Nat)} {x : FN} (hx : FV x) (h : Filt.stepT Filt.numT Filt.idtT l x = some l') : sumT l' ≤ sumT l + 100 := by
  cases x with
  | num f k n =>
    cases h
    have := ftxt_len (n := .num f k n) hx
    have e : (Nd.num f k n).size = 1 := rfl
    rw [e] at this
    show (Filt.numT f k n).length + sumT l ≤ _
    have e2 : ftxt (.num f k n) = Filt.numT f k n := rfl
    rw [e2] at this
    omega
  | idt k s =>
    cases h
    have := ftxt_len (n := .idt k s) hx
    have e : (Nd.idt k s).size = 1 := rfl
    rw [e] at this
    show (Filt.idtT k s).length + sumT l ≤ _
    have e2 : ftxt (.idt k s) = Filt.idtT k s := rfl
    rw [e2] at this
    omega
  | not =>
    match l, h with
    | a :: l, h =>
      cases h
      have := ite_len (c := a.2 = 2 ∨ a.2 = 3) a.1
      show (sNot ++ _).length + sumT l ≤ a.1.length + sumT l + 100
      rw [List.length_append]
      have : sNot.length = 4 := rfl
      omega
  | all =>
    match l, h with
    | b :: a :: l, h =>
      cases h
      have h1 := ite_len (c := a.2 = 3) a.1
      have h2 := ite_len (c := b.2 = 3) b.1
      show (_ ++ sAnd ++ _).length + sumT l ≤ b.1.length + (a.1.length + sumT l) + 100
      rw [List.length_append, List.length_append]
      have : sAnd.length = 5 := rfl
      omega
  | any =>
    match l, h with
    | b :: a :: l, h =>
      cases h
      show (a.1 ++ sOr ++ b.1).length + sumT l ≤ b.1.length + (a.1.length + sumT l) + 100
      rw [List.length_append, List.length_append]
      have : sOr.length = 4 := rfl
      omega
/-- the kinds of pieces -/
def KT (p : List UInt8 × Nat) : Prop := p.2 = 0 ∨ p.2 = 2 ∨ p.2 = 3
theorem stepT_kind {l l' : List (List UInt8 × Nat)} {x : FN} (hl : ∀ p ∈ l, KT p) (h : Filt.stepT Filt.numT Filt.idtT l x = some l') : ∀ p ∈ l', KT p := by
  cases x with
  | num f k n =>
    cases h
    intro p hp
    rcases List.mem_cons.1 hp with rfl | hp
    · exact .inl rfl
    · exact hl p hp
  | idt k s =>
    cases h
    intro p hp
    rcases List.mem_cons.1 hp with rfl | hp
    · exact .inl rfl
    · exact hl p hp
  | not =>
    match l, hl, h with
    | a :: l, hl, h =>
      cases h
      intro p hp
      rcases List.mem_cons.1 hp with rfl | hp
      · exact .inl rfl
      · exact hl p (List.mem_cons_of_mem _ hp)
  | all =>
    match l, hl, h with
    | b :: a :: l, hl, h =>
      cases h
      intro p hp
      rcases List.mem_cons.1 hp with rfl | hp
      · exact .inr (.inl rfl)
      · exact hl p (List.mem_cons_of_mem _ (List.mem_cons_of_mem _ hp))
  | any =>
    match l, hl, h with
    | b :: a :: l, hl, h =>
      cases h
      intro p hp
      rcases List.mem_cons.1 hp with rfl | hp
      · exact .inr (.inr rfl)
      · exact hl p (List.mem_cons_of_mem _ (List.mem_cons_of_mem _ hp))
/-- a piece in memory -/
def pV (p : List UInt8 × Nat) : List Value := [str p.1, fi (p.2 : Int)]
theorem pV_len (p : List UInt8 × Nat) : (pV p).length = 2 := rfl
theorem pV_one : ∀ (x : List UInt8 × Nat) (u : Value), u ∈ pV x → u.oneCell' = true := fun x u h => by
  simp only [pV, List.mem_cons, List.not_mem_nil, or_false] at h
  rcases h with rfl | rfl <;> rfl
theorem pieceElem : ElemOf Tryz.prog 65 69 2 24 := elemOf_mk Tryz.underlying65 (z := .agg #[str [], fi 0]) (by kernel_rfl) rfl (by decide)
/-- at the loop's head -/
def TRel (xs : List FN) (w : World) (k : Nat) (rt : List (List UInt8 × Nat)) (A : Option Addr) (c : Nat) (wr : World) : Prop :=
  k ≤ xs.length ∧ rt.length ≤ k ∧ sumT rt ≤ 100 * k ∧ (∀ p ∈ rt, KT p) ∧ Hid (Filt.runT Filt.numT Filt.idtT [] (xs.take k) = some rt) ∧ Mem (· < w.heap.size) w [ow 69 pV 2 A c rt.reverse] wr
end Go.Proofs.YtkblkdnihppmnaaGreatDoor
/- Filters (layer 21): a filter's text (walk). -/
namespace Go.Proofs.YtkblkdnihppmnaaGreatDoor
set_option linter.unusedSimpArgs false
set_option linter.unusedVariables false
open Go.RowKit Res Filt

set_option maxRecDepth 100000 in
set_option maxHeartbeats 800000 in
theorem filter_text (n : Nd) (t : List UInt8) (h : TextIs n t) (g : Nat) (w : World) (hN : Nv w) (hb : Box w g 53 #[ndV n]) :
    Calls Tryz.prog 11 #[.pointer (some ⟨g, 0, none⟩)] w fun e w' => e = .returned (str t) ∧ Ext w w' := by
  have M := Mem.start w
  have hc : w.cell? ⟨g, 0, none⟩ = some (.iface (tyV n) (payV n)) := by rw [hb.cell, ndV_eq]; rfl
  have HL := Lib.hid hc
  have q0 : ∀ w : World, (binOp BinOp.eql 22 (.pointer (some ⟨g, 0, none⟩)) (.pointer none)).run Tryz.prog w = .ok (.bool false) w := fun _ => by kernel_rfl
  have q1 : ∀ w : World, (binOp BinOp.eql 51 (.iface (tyV n) (payV n)) .nilIface).run Tryz.prog w = .ok (.bool false) w := fun _ => by kernel_rfl
  have HT : Hid (∀ w', Ext w w' → Calls Tryz.prog (textF n) #[payV n] w' fun e w'' => e = .returned (str t) ∧ Ext w' w'') := Lib.hid (fun w' hX => h w' (hN.ext hX))
  have HM := Lib.hid (method_text n)
  have HC := Lib.hid (call_text n)
  clear hb hc h hN
  go_enter Tryz.func11, Tryz.ntmps11
  (try dsimp only); (repeat (first | (first | (simp only [HM.out, HC.out, Result.andThen_ok]; rw [Oper.upon_enter]; (with_reducible refine (HT.out _ M.ext_of).mono ?_); rintro _ w1 ⟨rfl, hX⟩; replace M := M.ext hX; clear hX; dsimp only) | ((with_reducible refine on_load ?_); refine xlC HL.out ?_; go_big_move) | ((with_reducible refine wl_g ?_); first | go_big_want | go_skip | ((with_reducible refine wl_off (by kernel_rfl) ?_); (first | ((with_reducible refine fastK Tryz.prog rfl ?_); go_big_move) | (with_reducible refine fastN rfl ?_) | skip))) | ((with_reducible refine on_load ?_); (first | refine xl1 M ?_ | refine xlN M ?_); go_big_move)) | go_values | go_skip | go_guarded | go_step | go_upon))
  exact ret_m1 rfl (Out.tmp rfl) rfl ⟨rfl, M.ext_of⟩
end Go.Proofs.YtkblkdnihppmnaaGreatDoor
