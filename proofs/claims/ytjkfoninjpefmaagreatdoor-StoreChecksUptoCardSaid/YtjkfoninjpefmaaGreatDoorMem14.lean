/- Regions whose order is left open, with calls that may panic, in a function that defers (its results are read from cells). No program in sight. -/
import Derived.Test.YtjkfoninjpefmaaGreatDoorMem13
import Derived.Defers
namespace Go.Proofs.YtjkfoninjpefmaaGreatDoor
set_option linter.unusedSimpArgs false
set_option linter.unusedVariables false
open Go.RowKit Res
section
variable {P : Program} {S : Nat → Prop} {w0 w : World} {l : List Res} {a : Act}
theorem wpAnyR_of_schD {md : Region.Mode} {ops : Array Oper} {Q : Exit → Act → World → Prop} {R : World → World → Prop} {m : Nat} (hrefl : ∀ w, R w w) (htrans : ∀ a b c, R a b → R b c → R a c) (hlast : lastB md ops m = true) (hs : Region.noSelect ops = true)
    (hQ : ∀ (i : Nat) (o : Oper), ops[i]? = some o → ∀ c a v w, Q (.panic c) (Act.put a o.dst v) w → Q (.panic c) a w) : ∀ (sch : List (Nat × Bool)) (listed : Array Bool) (a : Act) (w : World), ClosedL md ops listed → schOk md ops m sch listed = true →
    wpSch P ops Q R m sch a w → wpAnyR P md ops Q R m sch.length listed a w
  | [], listed, a, w, _, hB, h => ⟨by simpa [schOk] using hB, h⟩
  | (i, true) :: rest, listed, a, w, hc, hB, h => by
    obtain ⟨oi, v, hoi, hy, hk⟩ := h
    simp only [schOk, Bool.and_eq_true, bne_iff_ne, ne_eq] at hB
    obtain ⟨⟨⟨him, hr⟩, hf⟩, hB'⟩ := hB
    have hr' : i ∈ Region.ready md ops listed := by simpa using hr
    exact wpAnyR_first hrefl htrans hlast hoi him (Region.noSelect_spec hs) (fun c a w => hQ i oi hoi c a v w) rest.length listed a w hc (Region.free_spec hoi hf) hr' hy
      (wpAnyR_of_schD hrefl htrans hlast hs hQ rest _ _ w (hc.set hr') hB' hk)
  | (i, false) :: rest, listed, a, w, hc, hB, h => by
    simp only [schOk, Bool.and_eq_true, decide_eq_true_eq] at hB
    refine ⟨fun h0 => (by rw [hB.1] at h0; cases h0), fun j hj => ?_⟩
    have hr' : i ∈ Region.ready md ops listed := by rw [hB.1]; simp
    rw [hB.1] at hj
    obtain rfl : j = i := by simpa using hj
    exact wpOp_mono (fun a' w' h' => ⟨h'.1, wpAnyR_of_schD hrefl htrans hlast hs hQ rest _ a' w' (hc.set hr') hB.2 h'.2⟩) h
theorem wp_region_schD {id : Nat} {l : List Oper} {Q : Exit → Act → World → Prop} (R : World → World → Prop) (m : Nat) (sch : List (Nat × Bool)) (hm : P.follows .mixedOrders = true) (hB : regionOk l.toArray m sch = true)
    (hrefl : ∀ w, R w w) (htrans : ∀ a b c, R a b → R b c → R a c) (hQ : ∀ (i : Nat) (o : Oper), l.toArray[i]? = some o → ∀ c a v w, Q (.panic c) (Act.put a o.dst v) w → Q (.panic c) a w)
    (h : wpSch P l.toArray Q R m sch a w.drew) : (Code.region id l.toArray true).wp P Q a w := by
  simp only [regionOk, Bool.and_eq_true, decide_eq_true_eq] at hB
  obtain ⟨⟨⟨hs, hl⟩, hn⟩, hok⟩ := hB
  refine wp_region_any hm ?_
  have hc : ClosedL .any l.toArray (Array.replicate l.toArray.size false) := fun j oj hj hlj => by
    have := rep_false l.toArray.size j
    rw [this] at hlj
    cases hlj
  have := wpAnyR_of_schD hrefl htrans hl hs hQ sch _ a w.drew hc hok h
  rw [hn] at this
  exact wpAnyR_any _ _ _ _ this
theorem leaves_congr {fn : Func} {t t' : Array Value} {R : Ending → World → Prop} (h : results fn t = results fn t') : ∀ (ds : List Deferred) (u : FrameMode) (w : World), Leaves P fn t R ds u w → Leaves P fn t' R ds u w
  | [], .returning, w, hl => by
    obtain ⟨v, h1, h2⟩ := hl
    exact ⟨v, by rw [← h]; exact h1, h2⟩
  | [], .panicking c, w, hl => hl
  | [], .run, w, hl => hl.elim
  | d :: ds, u, w, hl => by
    obtain ⟨h0, fv, cap, f, args, h1, h2, h3⟩ := hl
    refine ⟨h0, fv, cap, f, args, h1, h2, h3.mono fun e u' w' hx => ?_⟩
    cases e with
    | returned v => exact leaves_congr h ds _ _ hx
    | panicked c => exact leaves_congr h ds _ _ hx
    | outgrown => exact hx
theorem results_put {fn : Func} {a0 a1 a2 : Tmp} {t0 t1 t2 : TypeId} (hres : fn.results = #[.cell a0 t0, .cell a1 t1, .cell a2 t2]) {d : Option Tmp} (hd : (d != some a0 && d != some a1 && d != some a2) = true) (v : Value) : results fn (Act.put a d v).tmps = results fn a.tmps := by
  cases d with
  | none => rfl
  | some d =>
    simp only [Bool.and_eq_true, bne_iff_ne, ne_eq, Option.some.injEq] at hd
    have key : ∀ k : Nat, ¬ d = k → (a.tmps.setIfInBounds d v)[k]?.getD undef = a.tmps[k]?.getD undef := fun k hk => by
      simp [Array.getElem?_setIfInBounds, hk]
    simp only [results, hres, Act.put]
    simp [key a0 hd.1.1, key a1 hd.1.2, key a2 hd.2]
theorem wp_region_keepD {fn : Func} {R : Ending → World → Prop} {K : Act → World → Prop} (M : Mem S w0 l w) (ss : List Nat) {id : Nat} {L : List Oper} (m : Nat) (sch : List (Nat × Bool)) (hm : P.follows .mixedOrders = true) (hB : regionOk L.toArray m sch = true) {a0 a1 a2 : Tmp} {t0 t1 t2 : TypeId}
    (hres : fn.results = #[.cell a0 t0, .cell a1 t1, .cell a2 t2]) (hoff : (L.all fun o => o.dst != some a0 && o.dst != some a1 && o.dst != some a2) = true)
    (h : ∀ w', Mem S w0 l w' → wpSch P L.toArray (Exit.then K (bodyPostD P fn R)) (keepR a ss) m sch a w') : (Code.region id L.toArray true).wp P (Exit.then K (bodyPostD P fn R)) a w :=
  wp_region_schD (keepR a ss) m sch hm hB keepR.refl keepR.trans (fun i o ho c a v w hq => by
    have hm : o ∈ L := by
      have : L[i]? = some o := by simpa using ho
      exact List.mem_of_getElem? this
    have hd := List.all_eq_true.1 hoff o hm
    have hq : Leaves P fn (Act.put a o.dst v).tmps R (Act.put a o.dst v).defers (.panicking c) w := hq
    have e : (Act.put a o.dst v).defers = a.defers := by cases o.dst <;> rfl
    rw [e] at hq
    exact leaves_congr (results_put hres hd v) _ _ _ hq) (h w.drew M.drew)
end
end Go.Proofs.YtjkfoninjpefmaaGreatDoor
