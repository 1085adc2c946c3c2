/- A due put where it stands, and the list of an activity's dues: the document's walk (layer 18). -/
import Derived.Test.YtjmdbgbkmjlmdaaDues1
import Derived.Test.YtjmdbgbkmjlmdaaMem2
import Derived.BigGuardPart
namespace Go.Proofs.Ytjmdbgbkmjlmdaa
set_option linter.unusedSimpArgs false
set_option linter.unusedVariables false
open Go.RowKit Res

theorem own_cases {α : Type} {w : World} {base sz c : Nat} {e : TypeId} {f : α → List Value} {A : Option Addr} {l : List α} (h : Own w base e f sz A c l) : (A = none ∧ l = [] ∧ c = 0) ∨ ∃ g, A = some ⟨g, 0, none⟩ ∧ l.length ≤ c ∧ c ≤ 9223372036854775807 := by
  rcases h.2 with ⟨h1, h2⟩ | ⟨g, cap, cur, h1, h2, h3, h4, h5, h6, h7⟩
  · injection h1 with e1 e2 e3
    exact .inl ⟨e1, List.length_eq_zero_iff.1 h2, e3⟩
  · injection h1 with e1 e2 e3
    subst e1 e3
    exact .inr ⟨g, rfl, h4, by unfold maxLen at h5; omega⟩
theorem takeWhile_at {α : Type} {p : α → Bool} : ∀ {l : List α} {k : Nat}, k < (l.takeWhile p).length → ∃ x, l[k]? = some x ∧ p x = true
  | [], k, h => by simp at h
  | b :: l, k, h => by
    rw [List.takeWhile_cons] at h
    by_cases hb : p b = true
    · rw [if_pos hb] at h
      cases k with
      | zero => exact ⟨b, rfl, hb⟩
      | succ k =>
        obtain ⟨x, h1, h2⟩ := takeWhile_at (l := l) (k := k) (by simpa using h)
        exact ⟨x, by simpa using h1, h2⟩
    · rw [if_neg hb] at h; simp at h
theorem takeWhile_end {α : Type} {p : α → Bool} : ∀ {l : List α} {x : α}, l[(l.takeWhile p).length]? = some x → p x = false
  | [], x, h => by simp at h
  | b :: l, x, h => by
    rw [List.takeWhile_cons] at h
    by_cases hb : p b = true
    · rw [if_pos hb] at h
      exact takeWhile_end (l := l) (by simpa using h)
    · rw [if_neg hb] at h
      obtain rfl : b = x := by simpa using h
      simpa using hb
theorem takeWhile_le {α : Type} {p : α → Bool} (l : List α) : (l.takeWhile p).length ≤ l.length := (List.takeWhile_sublist p).length_le
theorem takeWhile_take {α : Type} {p : α → Bool} : ∀ (l : List α), l.take (l.takeWhile p).length = l.takeWhile p ∧ l.drop (l.takeWhile p).length = l.dropWhile p
  | [] => by simp
  | b :: l => by
    rw [List.takeWhile_cons, List.dropWhile_cons]
    by_cases hb : p b = true
    · rw [if_pos hb, if_pos hb]
      obtain ⟨h1, h2⟩ := takeWhile_take (p := p) l
      exact ⟨by rw [List.length_cons, List.take_succ_cons, h1], by rw [List.length_cons, List.drop_succ_cons, h2]⟩
    · rw [if_neg hb, if_neg hb]
      exact ⟨rfl, rfl⟩
theorem Row.tk {α : Type} {f : α → List Value} {w : World} {lo hi sz : Nat} {A : Option Addr} {l : List α} (hf : ∀ x, (f x).length = sz) (h : Row w lo hi sz A l.length (l.flatMap f)) {k : Nat} (hk : k ≤ l.length) : Row w lo hi sz A k ((l.take k).flatMap f) :=
  ⟨by rw [length_flatMap' hf, List.length_take, Nat.min_eq_left hk], fun h0 => by
    obtain ⟨b, off, e, h1, h2, hc⟩ := h.mem (by omega)
    exact ⟨b, off, e, h1, h2, fun j u hu => hc j u (part_take l k j hu)⟩⟩
theorem Row.dp {α : Type} {f : α → List Value} {w : World} {lo hi sz b off : Nat} {l : List α} (hf : ∀ x, (f x).length = sz) (h : Row w lo hi sz (some ⟨b, off, none⟩) l.length (l.flatMap f)) {k : Nat} (hk : k ≤ l.length) : Row w lo hi sz (some ⟨b, off + k * sz, none⟩) (l.length - k) ((l.drop k).flatMap f) :=
  ⟨by rw [length_flatMap' hf, List.length_drop], fun h0 => by
    obtain ⟨b', off', e, h1, h2, hc⟩ := h.mem (by omega)
    injection e with e
    injection e with e1 e2
    subst e1 e2
    exact ⟨_, _, rfl, h1, h2, fun j u hu => by rw [Nat.add_assoc]; exact hc _ u (part_drop hf l hk j hu)⟩⟩
theorem Row.zero {w : World} {lo hi sz : Nat} {A : Option Addr} : Row w lo hi sz A 0 [] := ⟨by simp, fun h => absurd h (by omega)⟩
def PutPost (l : List DueV) (d : DueV) (w : World) (e : Ending) (w' : World) : Prop := ∃ A' c', e = .returned (.slice A' (putDue l d).length c') ∧ Own w' w.heap.size 97 DueV.cells 2 A' c' (putDue l d) ∧ Ext w w'
theorem put_done {l L : List DueV} {d : DueV} {w w' : World} {R : List Res} {A : Option Addr} {n c : Nat} {F : Res → List Res} (M : Mem (· < w.heap.size) w R w') (p : Pick R (ow 97 DueV.cells 2 A c L) F) (hL : L = putDue l d) (hn : n = L.length) :
    PutPost l d w (.returned (.slice A n c)) w' := by
  subst hL hn
  exact ⟨A, c, rfl, M.own_new p, M.ext_of⟩
set_option maxRecDepth 100000 in
set_option maxHeartbeats 4000000 in
theorem put_ref {w : World} {base c : Nat} {A : Option Addr} {l : List DueV} (ho : Own w base 97 DueV.cells 2 A c l) (hl : l.length ≤ 1000) (d : DueV) :
    Calls Try.prog 54 #[.slice A l.length c, iv d.at_, iv d.kind] w (PutPost l d w) := by
  have M := Mem.start w
  have HO := Lib.hid ho.row
  have HC := Lib.hid (own_cases ho)
  have hkl := takeWhile_le (p := (dueLt · d)) l
  go_enter Try.func54, Try.ntmps54
  (try dsimp only); (repeat (first | (first | ((with_reducible refine on_load ?_); first | (refine wp_load1 M _ _ rfl _ _ rfl (by (repeat (first | exact Pick.head | apply Pick.tail)); done) (fun w => ⟨by first | (simp [go_sem]; done) | (simp [go_sem]; rfl), by first | (simp [go_sem]; done) | (simp [go_sem]; rfl)⟩) _ (by rfl) ?_; (try simp only [Act.put, List.setIfInBounds_toArray, List.set_cons_zero, List.set_cons_succ])) | (refine wp_loadN M _ _ rfl _ rfl (by (repeat (first | exact Pick.head | apply Pick.tail)); done) (fun w => ⟨by first | (simp [go_sem]; done) | (simp [go_sem]; rfl), by first | (simp [go_sem]; done) | (simp [go_sem]; rfl)⟩) ?_; (try simp only [Act.put, List.setIfInBounds_toArray, List.set_cons_zero, List.set_cons_succ]))) | ((with_reducible refine on_store ?_); first | (refine wp_store1 M _ _ _ rfl _ _ rfl (by (repeat (first | exact Pick.head | apply Pick.tail)); done) (fun w => ⟨by first | (simp [go_sem]; done) | (simp [go_sem]; rfl), by first | (simp [go_sem]; done) | (simp [go_sem]; rfl)⟩) _ (by first | exact CellsOf.agg _ | exact CellsOf.int _ _ | exact CellsOf.str _ | exact CellsOf.bool _ | exact CellsOf.slice _ _ _ | exact CellsOf.pointer _) (by rfl) (by (simp; done)) ?_; clear M; intro w' M; (try simp only [List.set_cons_zero, List.set_cons_succ] at M); (try simp only [Act.put, List.setIfInBounds_toArray, List.set_cons_zero, List.set_cons_succ])) | (refine wp_storeN M _ _ _ rfl _ rfl (by (repeat (first | exact Pick.head | apply Pick.tail)); done) (fun w => ⟨by first | (simp [go_sem]; done) | (simp [go_sem]; rfl), by first | (simp [go_sem]; done) | (simp [go_sem]; rfl)⟩) _ rfl (by rfl) (by rfl) ?_; clear M; intro w' M; (try simp only [] at M); (try simp only [Act.put, List.setIfInBounds_toArray, List.set_cons_zero, List.set_cons_succ]))) | ((with_reducible refine on_box ?_); refine wp_box M _ _ rfl _ (by first | exact CellsOf.agg _ | exact CellsOf.int _ _ | exact CellsOf.str _ | exact CellsOf.bool _ | exact CellsOf.slice _ _ _ | exact CellsOf.pointer _) ?_; clear M; intro g w' M; (try simp only [Act.put, List.setIfInBounds_toArray, List.set_cons_zero, List.set_cons_succ])) | ((with_reducible refine on_alloc ?_); refine wp_alloc M _ rfl _ (by simp [go_sem]; rfl) _ (by first | exact CellsOf.agg _ | exact CellsOf.int _ _ | exact CellsOf.str _ | exact CellsOf.bool _ | exact CellsOf.slice _ _ _ | exact CellsOf.pointer _) ?_; clear M; intro g w' M; (try simp only [Act.put, List.setIfInBounds_toArray, List.set_cons_zero, List.set_cons_succ]))) | go_values | go_skip | go_guarded | go_step | go_upon))
  clear ho
  go_loopw [7] (fun i wr => wr = w ∧ ∃ k : Nat, k ≤ (l.takeWhile (dueLt · d)).length ∧ i = .int .i64 k) (fun i _ => l.length - (intOf i).toNat)
  · exact ⟨rfl, 0, by omega, rfl⟩
  · obtain ⟨rfl, k, hk, rfl⟩ := hrel
    by_cases hlt : k < (l.takeWhile (dueLt · d)).length
    · obtain ⟨x, hx, hp⟩ := takeWhile_at hlt
      have hkn : k < l.length := by omega
      obtain ⟨b, off, rfl, -, hbw, hc⟩ := HO.out.elem (f := DueV.cells) (sz := 2) (fun _ => rfl) rfl hx
      have c0 := hc 0 _ rfl
      have c1 := hc 1 _ rfl
      rw [Nat.add_zero] at c0
      have hd : decide ((k : Int) < (l.length : Int)) = true := by simpa using hkn
      have hp' : x.at_ < d.at_ ∨ (x.at_ = d.at_ ∧ x.kind < d.kind) := by simpa [dueLt] using hp
      rcases hp' with h1 | ⟨h1, h2⟩
      · have t1 : decide (x.at_ < d.at_) = true := by simpa using h1
        clear hc hp hx
        go_wp2
        all_goals
          go_roundw
          case rel => exact ⟨trivial, k + 1, by omega, by go_num⟩
          case measure => simp [intOf]; omega
      · have t1 : decide (x.at_ < d.at_) = false := by simp; omega
        have t2 : (x.at_ == d.at_) = true := by simpa using h1
        have t3 : decide (x.kind < d.kind) = true := by simpa using h2
        clear hc hp hx h1
        go_wp2
        all_goals
          go_roundw
          case rel => exact ⟨trivial, k + 1, by omega, by go_num⟩
          case measure => simp [intOf]; omega
    · have hke : k = (l.takeWhile (dueLt · d)).length := by omega
      clear hk hlt
      obtain ⟨hT, hD⟩ := takeWhile_take (p := (dueLt · d)) l
      have hE := fun x => takeWhile_end (p := (dueLt · d)) (l := l) (x := x)
      rw [← hke] at hT hD hkl hE
      have HT := Lib.hid hT
      have HD := Lib.hid hD
      clear hT hD hke
      have M := M.nil_ 97 DueV.cells 2
      rcases HC.out with ⟨rfl, rfl, rfl⟩ | ⟨g, rfl, hnc, hcm⟩
      · obtain rfl : k = 0 := by simpa using hkl
        clear hE hkl
        (try dsimp only); (repeat (first | (first | ((with_reducible refine on_append ?_); refine wp_appends M dueElem _ _ rfl rfl (by (repeat (first | exact Pick.head | apply Pick.tail)); done) (by first | with_reducible rfl | (simp; done) | (simp; omega)) ([] : List DueV) rfl (by first | with_reducible rfl | (simp; done) | (simp; omega)) (Row.zero (lo := 0) (hi := 0)) (by first | (intro h; cases h; done) | (intro _; rfl)) (fun _ => rfl) due_one (by first | omega | (simp; done) | (simp; omega)) (by first | omega | (simp; done) | (simp; omega)) ?_; clear M; intro A' c' w' M; (try simp only [Act.put, List.setIfInBounds_toArray, List.set_cons_zero, List.set_cons_succ])) | ((with_reducible refine on_single ?_); refine wp_single M dueElem _ rfl _ (by first | exact CellsOf.agg _ | exact CellsOf.int _ _ | exact CellsOf.str _ | exact CellsOf.bool _ | exact CellsOf.slice _ _ _ | exact CellsOf.pointer _) (by rfl) (by decide) ?_; clear M; intro g w' M; (try simp only [Act.put, List.setIfInBounds_toArray, List.set_cons_zero, List.set_cons_succ])) | ((with_reducible refine on_append ?_); refine wp_append1 M dueElem _ _ rfl rfl _ rfl (by (repeat (first | exact Pick.head | apply Pick.tail)); done) (by first | with_reducible rfl | (simp; done) | (simp; omega)) d (by (repeat (first | exact Pick.head | apply Pick.tail)); done) (by rfl) (fun _ => rfl) due_one (by first | omega | (simp; done) | (simp; omega)) (by first | omega | (simp; done) | (simp; omega)) ?_; clear M; intro A' c' w' M; (try simp only [Act.put, List.setIfInBounds_toArray, List.set_cons_zero, List.set_cons_succ])) | ((with_reducible refine on_load ?_); first | (refine wp_load1 M _ _ rfl _ _ rfl (by (repeat (first | exact Pick.head | apply Pick.tail)); done) (fun w => ⟨by first | (simp [go_sem]; done) | (simp [go_sem]; rfl), by first | (simp [go_sem]; done) | (simp [go_sem]; rfl)⟩) _ (by rfl) ?_; (try simp only [Act.put, List.setIfInBounds_toArray, List.set_cons_zero, List.set_cons_succ])) | (refine wp_loadN M _ _ rfl _ rfl (by (repeat (first | exact Pick.head | apply Pick.tail)); done) (fun w => ⟨by first | (simp [go_sem]; done) | (simp [go_sem]; rfl), by first | (simp [go_sem]; done) | (simp [go_sem]; rfl)⟩) ?_; (try simp only [Act.put, List.setIfInBounds_toArray, List.set_cons_zero, List.set_cons_succ]))) | ((with_reducible refine on_store ?_); first | (refine wp_store1 M _ _ _ rfl _ _ rfl (by (repeat (first | exact Pick.head | apply Pick.tail)); done) (fun w => ⟨by first | (simp [go_sem]; done) | (simp [go_sem]; rfl), by first | (simp [go_sem]; done) | (simp [go_sem]; rfl)⟩) _ (by first | exact CellsOf.agg _ | exact CellsOf.int _ _ | exact CellsOf.str _ | exact CellsOf.bool _ | exact CellsOf.slice _ _ _ | exact CellsOf.pointer _) (by rfl) (by (simp; done)) ?_; clear M; intro w' M; (try simp only [List.set_cons_zero, List.set_cons_succ] at M); (try simp only [Act.put, List.setIfInBounds_toArray, List.set_cons_zero, List.set_cons_succ])) | (refine wp_storeN M _ _ _ rfl _ rfl (by (repeat (first | exact Pick.head | apply Pick.tail)); done) (fun w => ⟨by first | (simp [go_sem]; done) | (simp [go_sem]; rfl), by first | (simp [go_sem]; done) | (simp [go_sem]; rfl)⟩) _ rfl (by rfl) (by rfl) ?_; clear M; intro w' M; (try simp only [] at M); (try simp only [Act.put, List.setIfInBounds_toArray, List.set_cons_zero, List.set_cons_succ]))) | ((with_reducible refine on_box ?_); refine wp_box M _ _ rfl _ (by first | exact CellsOf.agg _ | exact CellsOf.int _ _ | exact CellsOf.str _ | exact CellsOf.bool _ | exact CellsOf.slice _ _ _ | exact CellsOf.pointer _) ?_; clear M; intro g w' M; (try simp only [Act.put, List.setIfInBounds_toArray, List.set_cons_zero, List.set_cons_succ])) | ((with_reducible refine on_alloc ?_); refine wp_alloc M _ rfl _ (by simp [go_sem]; rfl) _ (by first | exact CellsOf.agg _ | exact CellsOf.int _ _ | exact CellsOf.str _ | exact CellsOf.bool _ | exact CellsOf.slice _ _ _ | exact CellsOf.pointer _) ?_; clear M; intro g w' M; (try simp only [Act.put, List.setIfInBounds_toArray, List.set_cons_zero, List.set_cons_succ]))) | go_values | go_skip | go_guarded | go_step | go_upon))
        refine ret_m1 rfl (Out.tmp rfl) rfl ?_
        exact put_done M (by (repeat (first | exact Pick.head | apply Pick.tail)); done) (by simp [putDue]) (by simp)
      · have h1 := Lib.hid (fun w' (h : Ext wr w') => Row.tk (k := k) (f := DueV.cells) (fun _ => rfl) (HO.out.ext h (Nat.le_refl _)) hkl)
        have h2 := Lib.hid (fun w' (h : Ext wr w') => Row.dp (k := k) (f := DueV.cells) (fun _ => rfl) (HO.out.ext h (Nat.le_refl _)) hkl)
        have HP : Hid ([] ++ l.take k ++ [d] ++ l.drop k = putDue l d) := by
          unfold Hid putDue
          rw [HT.out, HD.out]
          simp
        rw [Nat.zero_add] at h2
        have HLK : Hid ((l.take k).length = k) := by
          unfold Hid
          rw [List.length_take]; omega
        clear HT HD HC
        by_cases hkn : k < l.length
        · obtain ⟨x, hx⟩ : ∃ x, l[k]? = some x := ⟨_, List.getElem?_eq_getElem hkn⟩
          have hp := hE x hx
          have hd : decide ((k : Int) < (l.length : Int)) = true := by simpa using hkn
          obtain ⟨b, off, hA, -, hbw, hc⟩ := HO.out.elem (f := DueV.cells) (sz := 2) (fun _ => rfl) rfl hx
          injection hA with hA
          injection hA with e1 e2
          subst e1 e2
          have c0 := hc 0 _ rfl
          have c1 := hc 1 _ rfl
          simp only [Nat.zero_add, Nat.add_zero] at c0 c1
          have hcl : ¬ c = k := by omega
          have hkc : (k : Int) ≤ (c : Int) := by omega
          have hp' : ¬ x.at_ < d.at_ ∧ (¬ x.at_ = d.at_ ∨ ¬ x.kind < d.kind) := by
            simp [dueLt] at hp
            omega
          have t1 : decide (x.at_ < d.at_) = false := by simpa using hp'.1
          clear hc hp hx hE
          by_cases h3 : x.at_ = d.at_
          · have t2 : (x.at_ == d.at_) = true := by simpa using h3
            have t3 : decide (x.kind < d.kind) = false := by simp; omega
            clear hp' h3
            (try dsimp only); (repeat (first | (first | ((with_reducible refine on_append ?_); refine wp_appends M dueElem _ _ rfl rfl (by (repeat (first | exact Pick.head | apply Pick.tail)); done) (by first | with_reducible rfl | (simp; done) | (simp; omega)) (l.take k) rfl (by first | with_reducible rfl | (simp; done) | (simp; omega)) (h1.out _ M.ext_of) (by first | (intro h; cases h; done) | (intro _; rfl)) (fun _ => rfl) due_one (by first | omega | (simp; done) | (simp; omega)) (by first | omega | (simp; done) | (simp; omega)) ?_; clear M; intro A' c' w' M; (try simp only [Act.put, List.setIfInBounds_toArray, List.set_cons_zero, List.set_cons_succ])) | ((with_reducible refine on_append ?_); refine wp_appends M dueElem _ _ rfl rfl (by (repeat (first | exact Pick.head | apply Pick.tail)); done) (by first | with_reducible rfl | (simp; done) | (simp; omega)) (l.drop k) rfl (by first | with_reducible rfl | (simp; done) | (simp; omega)) (h2.out _ M.ext_of) (by first | (intro h; cases h; done) | (intro _; rfl)) (fun _ => rfl) due_one (by first | omega | (simp; done) | (simp; omega)) (by first | omega | (simp; done) | (simp; omega)) ?_; clear M; intro A' c' w' M; (try simp only [Act.put, List.setIfInBounds_toArray, List.set_cons_zero, List.set_cons_succ])) | ((with_reducible refine on_single ?_); refine wp_single M dueElem _ rfl _ (by first | exact CellsOf.agg _ | exact CellsOf.int _ _ | exact CellsOf.str _ | exact CellsOf.bool _ | exact CellsOf.slice _ _ _ | exact CellsOf.pointer _) (by rfl) (by decide) ?_; clear M; intro g w' M; (try simp only [Act.put, List.setIfInBounds_toArray, List.set_cons_zero, List.set_cons_succ])) | ((with_reducible refine on_append ?_); refine wp_append1 M dueElem _ _ rfl rfl _ rfl (by (repeat (first | exact Pick.head | apply Pick.tail)); done) (by first | with_reducible rfl | (simp; done) | (simp; omega)) d (by (repeat (first | exact Pick.head | apply Pick.tail)); done) (by rfl) (fun _ => rfl) due_one (by first | omega | (simp; done) | (simp; omega)) (by first | omega | (simp; done) | (simp; omega)) ?_; clear M; intro A' c' w' M; (try simp only [Act.put, List.setIfInBounds_toArray, List.set_cons_zero, List.set_cons_succ])) | ((with_reducible refine on_load ?_); first | (refine wp_load1 M _ _ rfl _ _ rfl (by (repeat (first | exact Pick.head | apply Pick.tail)); done) (fun w => ⟨by first | (simp [go_sem]; done) | (simp [go_sem]; rfl), by first | (simp [go_sem]; done) | (simp [go_sem]; rfl)⟩) _ (by rfl) ?_; (try simp only [Act.put, List.setIfInBounds_toArray, List.set_cons_zero, List.set_cons_succ])) | (refine wp_loadN M _ _ rfl _ rfl (by (repeat (first | exact Pick.head | apply Pick.tail)); done) (fun w => ⟨by first | (simp [go_sem]; done) | (simp [go_sem]; rfl), by first | (simp [go_sem]; done) | (simp [go_sem]; rfl)⟩) ?_; (try simp only [Act.put, List.setIfInBounds_toArray, List.set_cons_zero, List.set_cons_succ]))) | ((with_reducible refine on_store ?_); first | (refine wp_store1 M _ _ _ rfl _ _ rfl (by (repeat (first | exact Pick.head | apply Pick.tail)); done) (fun w => ⟨by first | (simp [go_sem]; done) | (simp [go_sem]; rfl), by first | (simp [go_sem]; done) | (simp [go_sem]; rfl)⟩) _ (by first | exact CellsOf.agg _ | exact CellsOf.int _ _ | exact CellsOf.str _ | exact CellsOf.bool _ | exact CellsOf.slice _ _ _ | exact CellsOf.pointer _) (by rfl) (by (simp; done)) ?_; clear M; intro w' M; (try simp only [List.set_cons_zero, List.set_cons_succ] at M); (try simp only [Act.put, List.setIfInBounds_toArray, List.set_cons_zero, List.set_cons_succ])) | (refine wp_storeN M _ _ _ rfl _ rfl (by (repeat (first | exact Pick.head | apply Pick.tail)); done) (fun w => ⟨by first | (simp [go_sem]; done) | (simp [go_sem]; rfl), by first | (simp [go_sem]; done) | (simp [go_sem]; rfl)⟩) _ rfl (by rfl) (by rfl) ?_; clear M; intro w' M; (try simp only [] at M); (try simp only [Act.put, List.setIfInBounds_toArray, List.set_cons_zero, List.set_cons_succ]))) | ((with_reducible refine on_box ?_); refine wp_box M _ _ rfl _ (by first | exact CellsOf.agg _ | exact CellsOf.int _ _ | exact CellsOf.str _ | exact CellsOf.bool _ | exact CellsOf.slice _ _ _ | exact CellsOf.pointer _) ?_; clear M; intro g w' M; (try simp only [Act.put, List.setIfInBounds_toArray, List.set_cons_zero, List.set_cons_succ])) | ((with_reducible refine on_alloc ?_); refine wp_alloc M _ rfl _ (by simp [go_sem]; rfl) _ (by first | exact CellsOf.agg _ | exact CellsOf.int _ _ | exact CellsOf.str _ | exact CellsOf.bool _ | exact CellsOf.slice _ _ _ | exact CellsOf.pointer _) ?_; clear M; intro g w' M; (try simp only [Act.put, List.setIfInBounds_toArray, List.set_cons_zero, List.set_cons_succ]))) | go_values | go_skip | go_guarded | go_step | go_upon))
            refine ret_m1 rfl (Out.tmp rfl) rfl ?_
            exact put_done M (by (repeat (first | exact Pick.head | apply Pick.tail)); done) HP.out (by simp; omega)
          · have t2 : (x.at_ == d.at_) = false := by simpa using h3
            clear hp' h3
            (try dsimp only); (repeat (first | (first | ((with_reducible refine on_append ?_); refine wp_appends M dueElem _ _ rfl rfl (by (repeat (first | exact Pick.head | apply Pick.tail)); done) (by first | with_reducible rfl | (simp; done) | (simp; omega)) (l.take k) rfl (by first | with_reducible rfl | (simp; done) | (simp; omega)) (h1.out _ M.ext_of) (by first | (intro h; cases h; done) | (intro _; rfl)) (fun _ => rfl) due_one (by first | omega | (simp; done) | (simp; omega)) (by first | omega | (simp; done) | (simp; omega)) ?_; clear M; intro A' c' w' M; (try simp only [Act.put, List.setIfInBounds_toArray, List.set_cons_zero, List.set_cons_succ])) | ((with_reducible refine on_append ?_); refine wp_appends M dueElem _ _ rfl rfl (by (repeat (first | exact Pick.head | apply Pick.tail)); done) (by first | with_reducible rfl | (simp; done) | (simp; omega)) (l.drop k) rfl (by first | with_reducible rfl | (simp; done) | (simp; omega)) (h2.out _ M.ext_of) (by first | (intro h; cases h; done) | (intro _; rfl)) (fun _ => rfl) due_one (by first | omega | (simp; done) | (simp; omega)) (by first | omega | (simp; done) | (simp; omega)) ?_; clear M; intro A' c' w' M; (try simp only [Act.put, List.setIfInBounds_toArray, List.set_cons_zero, List.set_cons_succ])) | ((with_reducible refine on_single ?_); refine wp_single M dueElem _ rfl _ (by first | exact CellsOf.agg _ | exact CellsOf.int _ _ | exact CellsOf.str _ | exact CellsOf.bool _ | exact CellsOf.slice _ _ _ | exact CellsOf.pointer _) (by rfl) (by decide) ?_; clear M; intro g w' M; (try simp only [Act.put, List.setIfInBounds_toArray, List.set_cons_zero, List.set_cons_succ])) | ((with_reducible refine on_append ?_); refine wp_append1 M dueElem _ _ rfl rfl _ rfl (by (repeat (first | exact Pick.head | apply Pick.tail)); done) (by first | with_reducible rfl | (simp; done) | (simp; omega)) d (by (repeat (first | exact Pick.head | apply Pick.tail)); done) (by rfl) (fun _ => rfl) due_one (by first | omega | (simp; done) | (simp; omega)) (by first | omega | (simp; done) | (simp; omega)) ?_; clear M; intro A' c' w' M; (try simp only [Act.put, List.setIfInBounds_toArray, List.set_cons_zero, List.set_cons_succ])) | ((with_reducible refine on_load ?_); first | (refine wp_load1 M _ _ rfl _ _ rfl (by (repeat (first | exact Pick.head | apply Pick.tail)); done) (fun w => ⟨by first | (simp [go_sem]; done) | (simp [go_sem]; rfl), by first | (simp [go_sem]; done) | (simp [go_sem]; rfl)⟩) _ (by rfl) ?_; (try simp only [Act.put, List.setIfInBounds_toArray, List.set_cons_zero, List.set_cons_succ])) | (refine wp_loadN M _ _ rfl _ rfl (by (repeat (first | exact Pick.head | apply Pick.tail)); done) (fun w => ⟨by first | (simp [go_sem]; done) | (simp [go_sem]; rfl), by first | (simp [go_sem]; done) | (simp [go_sem]; rfl)⟩) ?_; (try simp only [Act.put, List.setIfInBounds_toArray, List.set_cons_zero, List.set_cons_succ]))) | ((with_reducible refine on_store ?_); first | (refine wp_store1 M _ _ _ rfl _ _ rfl (by (repeat (first | exact Pick.head | apply Pick.tail)); done) (fun w => ⟨by first | (simp [go_sem]; done) | (simp [go_sem]; rfl), by first | (simp [go_sem]; done) | (simp [go_sem]; rfl)⟩) _ (by first | exact CellsOf.agg _ | exact CellsOf.int _ _ | exact CellsOf.str _ | exact CellsOf.bool _ | exact CellsOf.slice _ _ _ | exact CellsOf.pointer _) (by rfl) (by (simp; done)) ?_; clear M; intro w' M; (try simp only [List.set_cons_zero, List.set_cons_succ] at M); (try simp only [Act.put, List.setIfInBounds_toArray, List.set_cons_zero, List.set_cons_succ])) | (refine wp_storeN M _ _ _ rfl _ rfl (by (repeat (first | exact Pick.head | apply Pick.tail)); done) (fun w => ⟨by first | (simp [go_sem]; done) | (simp [go_sem]; rfl), by first | (simp [go_sem]; done) | (simp [go_sem]; rfl)⟩) _ rfl (by rfl) (by rfl) ?_; clear M; intro w' M; (try simp only [] at M); (try simp only [Act.put, List.setIfInBounds_toArray, List.set_cons_zero, List.set_cons_succ]))) | ((with_reducible refine on_box ?_); refine wp_box M _ _ rfl _ (by first | exact CellsOf.agg _ | exact CellsOf.int _ _ | exact CellsOf.str _ | exact CellsOf.bool _ | exact CellsOf.slice _ _ _ | exact CellsOf.pointer _) ?_; clear M; intro g w' M; (try simp only [Act.put, List.setIfInBounds_toArray, List.set_cons_zero, List.set_cons_succ])) | ((with_reducible refine on_alloc ?_); refine wp_alloc M _ rfl _ (by simp [go_sem]; rfl) _ (by first | exact CellsOf.agg _ | exact CellsOf.int _ _ | exact CellsOf.str _ | exact CellsOf.bool _ | exact CellsOf.slice _ _ _ | exact CellsOf.pointer _) ?_; clear M; intro g w' M; (try simp only [Act.put, List.setIfInBounds_toArray, List.set_cons_zero, List.set_cons_succ]))) | go_values | go_skip | go_guarded | go_step | go_upon))
            refine ret_m1 rfl (Out.tmp rfl) rfl ?_
            exact put_done M (by (repeat (first | exact Pick.head | apply Pick.tail)); done) HP.out (by simp; omega)
        · obtain rfl : k = l.length := by omega
          have hd : decide ((l.length : Int) < (l.length : Int)) = false := by simp
          clear hE
          have HP2 : Hid ([] ++ l.take l.length ++ [d] ++ [] = putDue l d) := by
            have := HP.out
            rw [List.drop_length] at this
            exact this
          by_cases hcl : c = l.length
          · subst hcl
            (try dsimp only); (repeat (first | (first | ((with_reducible refine on_append ?_); refine wp_appends M dueElem _ _ rfl rfl (by (repeat (first | exact Pick.head | apply Pick.tail)); done) (by first | with_reducible rfl | (simp; done) | (simp; omega)) (l.take l.length) rfl (by first | with_reducible rfl | (simp; done) | (simp; omega)) (h1.out _ M.ext_of) (by first | (intro h; cases h; done) | (intro _; rfl)) (fun _ => rfl) due_one (by first | omega | (simp; done) | (simp; omega)) (by first | omega | (simp; done) | (simp; omega)) ?_; clear M; intro A' c' w' M; (try simp only [Act.put, List.setIfInBounds_toArray, List.set_cons_zero, List.set_cons_succ])) | ((with_reducible refine on_append ?_); refine wp_appends M dueElem _ _ rfl rfl (by (repeat (first | exact Pick.head | apply Pick.tail)); done) (by first | with_reducible rfl | (simp; done) | (simp; omega)) ([] : List DueV) rfl (by first | with_reducible rfl | (simp; done) | (simp; omega)) (Row.zero (lo := 0) (hi := 0)) (by first | (intro h; cases h; done) | (intro _; rfl)) (fun _ => rfl) due_one (by first | omega | (simp; done) | (simp; omega)) (by first | omega | (simp; done) | (simp; omega)) ?_; clear M; intro A' c' w' M; (try simp only [Act.put, List.setIfInBounds_toArray, List.set_cons_zero, List.set_cons_succ])) | ((with_reducible refine on_single ?_); refine wp_single M dueElem _ rfl _ (by first | exact CellsOf.agg _ | exact CellsOf.int _ _ | exact CellsOf.str _ | exact CellsOf.bool _ | exact CellsOf.slice _ _ _ | exact CellsOf.pointer _) (by rfl) (by decide) ?_; clear M; intro g w' M; (try simp only [Act.put, List.setIfInBounds_toArray, List.set_cons_zero, List.set_cons_succ])) | ((with_reducible refine on_append ?_); refine wp_append1 M dueElem _ _ rfl rfl _ rfl (by (repeat (first | exact Pick.head | apply Pick.tail)); done) (by first | with_reducible rfl | (simp; done) | (simp; omega)) d (by (repeat (first | exact Pick.head | apply Pick.tail)); done) (by rfl) (fun _ => rfl) due_one (by first | omega | (simp; done) | (simp; omega)) (by first | omega | (simp; done) | (simp; omega)) ?_; clear M; intro A' c' w' M; (try simp only [Act.put, List.setIfInBounds_toArray, List.set_cons_zero, List.set_cons_succ])) | ((with_reducible refine on_load ?_); first | (refine wp_load1 M _ _ rfl _ _ rfl (by (repeat (first | exact Pick.head | apply Pick.tail)); done) (fun w => ⟨by first | (simp [go_sem]; done) | (simp [go_sem]; rfl), by first | (simp [go_sem]; done) | (simp [go_sem]; rfl)⟩) _ (by rfl) ?_; (try simp only [Act.put, List.setIfInBounds_toArray, List.set_cons_zero, List.set_cons_succ])) | (refine wp_loadN M _ _ rfl _ rfl (by (repeat (first | exact Pick.head | apply Pick.tail)); done) (fun w => ⟨by first | (simp [go_sem]; done) | (simp [go_sem]; rfl), by first | (simp [go_sem]; done) | (simp [go_sem]; rfl)⟩) ?_; (try simp only [Act.put, List.setIfInBounds_toArray, List.set_cons_zero, List.set_cons_succ]))) | ((with_reducible refine on_store ?_); first | (refine wp_store1 M _ _ _ rfl _ _ rfl (by (repeat (first | exact Pick.head | apply Pick.tail)); done) (fun w => ⟨by first | (simp [go_sem]; done) | (simp [go_sem]; rfl), by first | (simp [go_sem]; done) | (simp [go_sem]; rfl)⟩) _ (by first | exact CellsOf.agg _ | exact CellsOf.int _ _ | exact CellsOf.str _ | exact CellsOf.bool _ | exact CellsOf.slice _ _ _ | exact CellsOf.pointer _) (by rfl) (by (simp; done)) ?_; clear M; intro w' M; (try simp only [List.set_cons_zero, List.set_cons_succ] at M); (try simp only [Act.put, List.setIfInBounds_toArray, List.set_cons_zero, List.set_cons_succ])) | (refine wp_storeN M _ _ _ rfl _ rfl (by (repeat (first | exact Pick.head | apply Pick.tail)); done) (fun w => ⟨by first | (simp [go_sem]; done) | (simp [go_sem]; rfl), by first | (simp [go_sem]; done) | (simp [go_sem]; rfl)⟩) _ rfl (by rfl) (by rfl) ?_; clear M; intro w' M; (try simp only [] at M); (try simp only [Act.put, List.setIfInBounds_toArray, List.set_cons_zero, List.set_cons_succ]))) | ((with_reducible refine on_box ?_); refine wp_box M _ _ rfl _ (by first | exact CellsOf.agg _ | exact CellsOf.int _ _ | exact CellsOf.str _ | exact CellsOf.bool _ | exact CellsOf.slice _ _ _ | exact CellsOf.pointer _) ?_; clear M; intro g w' M; (try simp only [Act.put, List.setIfInBounds_toArray, List.set_cons_zero, List.set_cons_succ])) | ((with_reducible refine on_alloc ?_); refine wp_alloc M _ rfl _ (by simp [go_sem]; rfl) _ (by first | exact CellsOf.agg _ | exact CellsOf.int _ _ | exact CellsOf.str _ | exact CellsOf.bool _ | exact CellsOf.slice _ _ _ | exact CellsOf.pointer _) ?_; clear M; intro g w' M; (try simp only [Act.put, List.setIfInBounds_toArray, List.set_cons_zero, List.set_cons_succ]))) | go_values | go_skip | go_guarded | go_step | go_upon))
            refine ret_m1 rfl (Out.tmp rfl) rfl ?_
            exact put_done M (by (repeat (first | exact Pick.head | apply Pick.tail)); done) HP2.out (by simp)
          · skip
            (try dsimp only); (repeat (first | (first | ((with_reducible refine on_append ?_); refine wp_appends M dueElem _ _ rfl rfl (by (repeat (first | exact Pick.head | apply Pick.tail)); done) (by first | with_reducible rfl | (simp; done) | (simp; omega)) (l.take l.length) rfl (by first | with_reducible rfl | (simp; done) | (simp; omega)) (h1.out _ M.ext_of) (by first | (intro h; cases h; done) | (intro _; rfl)) (fun _ => rfl) due_one (by first | omega | (simp; done) | (simp; omega)) (by first | omega | (simp; done) | (simp; omega)) ?_; clear M; intro A' c' w' M; (try simp only [Act.put, List.setIfInBounds_toArray, List.set_cons_zero, List.set_cons_succ])) | ((with_reducible refine on_append ?_); refine wp_appends M dueElem _ _ rfl rfl (by (repeat (first | exact Pick.head | apply Pick.tail)); done) (by first | with_reducible rfl | (simp; done) | (simp; omega)) ([] : List DueV) rfl (by first | with_reducible rfl | (simp; done) | (simp; omega)) (Row.zero (lo := 0) (hi := 0)) (by first | (intro h; cases h; done) | (intro _; rfl)) (fun _ => rfl) due_one (by first | omega | (simp; done) | (simp; omega)) (by first | omega | (simp; done) | (simp; omega)) ?_; clear M; intro A' c' w' M; (try simp only [Act.put, List.setIfInBounds_toArray, List.set_cons_zero, List.set_cons_succ])) | ((with_reducible refine on_single ?_); refine wp_single M dueElem _ rfl _ (by first | exact CellsOf.agg _ | exact CellsOf.int _ _ | exact CellsOf.str _ | exact CellsOf.bool _ | exact CellsOf.slice _ _ _ | exact CellsOf.pointer _) (by rfl) (by decide) ?_; clear M; intro g w' M; (try simp only [Act.put, List.setIfInBounds_toArray, List.set_cons_zero, List.set_cons_succ])) | ((with_reducible refine on_append ?_); refine wp_append1 M dueElem _ _ rfl rfl _ rfl (by (repeat (first | exact Pick.head | apply Pick.tail)); done) (by first | with_reducible rfl | (simp; done) | (simp; omega)) d (by (repeat (first | exact Pick.head | apply Pick.tail)); done) (by rfl) (fun _ => rfl) due_one (by first | omega | (simp; done) | (simp; omega)) (by first | omega | (simp; done) | (simp; omega)) ?_; clear M; intro A' c' w' M; (try simp only [Act.put, List.setIfInBounds_toArray, List.set_cons_zero, List.set_cons_succ])) | ((with_reducible refine on_load ?_); first | (refine wp_load1 M _ _ rfl _ _ rfl (by (repeat (first | exact Pick.head | apply Pick.tail)); done) (fun w => ⟨by first | (simp [go_sem]; done) | (simp [go_sem]; rfl), by first | (simp [go_sem]; done) | (simp [go_sem]; rfl)⟩) _ (by rfl) ?_; (try simp only [Act.put, List.setIfInBounds_toArray, List.set_cons_zero, List.set_cons_succ])) | (refine wp_loadN M _ _ rfl _ rfl (by (repeat (first | exact Pick.head | apply Pick.tail)); done) (fun w => ⟨by first | (simp [go_sem]; done) | (simp [go_sem]; rfl), by first | (simp [go_sem]; done) | (simp [go_sem]; rfl)⟩) ?_; (try simp only [Act.put, List.setIfInBounds_toArray, List.set_cons_zero, List.set_cons_succ]))) | ((with_reducible refine on_store ?_); first | (refine wp_store1 M _ _ _ rfl _ _ rfl (by (repeat (first | exact Pick.head | apply Pick.tail)); done) (fun w => ⟨by first | (simp [go_sem]; done) | (simp [go_sem]; rfl), by first | (simp [go_sem]; done) | (simp [go_sem]; rfl)⟩) _ (by first | exact CellsOf.agg _ | exact CellsOf.int _ _ | exact CellsOf.str _ | exact CellsOf.bool _ | exact CellsOf.slice _ _ _ | exact CellsOf.pointer _) (by rfl) (by (simp; done)) ?_; clear M; intro w' M; (try simp only [List.set_cons_zero, List.set_cons_succ] at M); (try simp only [Act.put, List.setIfInBounds_toArray, List.set_cons_zero, List.set_cons_succ])) | (refine wp_storeN M _ _ _ rfl _ rfl (by (repeat (first | exact Pick.head | apply Pick.tail)); done) (fun w => ⟨by first | (simp [go_sem]; done) | (simp [go_sem]; rfl), by first | (simp [go_sem]; done) | (simp [go_sem]; rfl)⟩) _ rfl (by rfl) (by rfl) ?_; clear M; intro w' M; (try simp only [] at M); (try simp only [Act.put, List.setIfInBounds_toArray, List.set_cons_zero, List.set_cons_succ]))) | ((with_reducible refine on_box ?_); refine wp_box M _ _ rfl _ (by first | exact CellsOf.agg _ | exact CellsOf.int _ _ | exact CellsOf.str _ | exact CellsOf.bool _ | exact CellsOf.slice _ _ _ | exact CellsOf.pointer _) ?_; clear M; intro g w' M; (try simp only [Act.put, List.setIfInBounds_toArray, List.set_cons_zero, List.set_cons_succ])) | ((with_reducible refine on_alloc ?_); refine wp_alloc M _ rfl _ (by simp [go_sem]; rfl) _ (by first | exact CellsOf.agg _ | exact CellsOf.int _ _ | exact CellsOf.str _ | exact CellsOf.bool _ | exact CellsOf.slice _ _ _ | exact CellsOf.pointer _) ?_; clear M; intro g w' M; (try simp only [Act.put, List.setIfInBounds_toArray, List.set_cons_zero, List.set_cons_succ]))) | go_values | go_skip | go_guarded | go_step | go_upon))
            refine ret_m1 rfl (Out.tmp rfl) rfl ?_
            exact put_done M (by (repeat (first | exact Pick.head | apply Pick.tail)); done) HP2.out (by simp)
end Go.Proofs.Ytjmdbgbkmjlmdaa
