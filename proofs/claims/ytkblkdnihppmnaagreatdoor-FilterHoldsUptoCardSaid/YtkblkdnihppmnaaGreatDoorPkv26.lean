/- Parts of this work, one behind the other: FiltZa. -/
import Derived.Test.YtkblkdnihppmnaaGreatDoorPkv16
/- Filters (layer 21): a part's text (walk, second part): within. -/
namespace Go.Proofs.YtkblkdnihppmnaaGreatDoor
set_option linter.unusedSimpArgs false
set_option linter.unusedVariables false
open Go.RowKit Res Filt

section
variable {P : Program} {w : World} {o : Oper} {a : Act} {K : Act → World → Prop} {Q : Exit → Act → World → Prop} {dst : Option Tmp} {b : BinOp} {t u ty : TypeId} {x y : Operand} {pos : String} {after : Array Edge} {gd : Option (Nat × Bool)}
theorem on_bin (h : (Oper.mk dst (.binOp b t x y u) ty pos after gd).wp P a w K Q) : (Oper.mk dst (.binOp b t x y u) ty pos after gd).wp P a w K Q := h
/-- an operation on two values, by what it comes to -/
theorem wp_bin (ho : o.op = .binOp b t x y u) {vx vy v : Value} (hx : a.eval x = vx) (hy : a.eval y = vy) (hg : (eqGuard b t x y vx vy).run P w = .ok () w) (hr : (binOp b t vx vy).run P w = .ok v w) (h : K (a.put o.dst v) w) : o.wp P a w K Q := by
  unfold Oper.wp execOp
  simp only [ho, hx, hy, Sem.run_bind, Sem.run_pure, Result.andThen_ok, hg, hr]
  exact h
end
theorem run_cat (a b : List UInt8) (h : a.length + b.length ≤ 4000000) (w : World) : (binOp BinOp.add 9 (str a) (str b)).run Tryz.prog w = .ok (str (a ++ b)) w := by
  have e : (⟨a.toArray⟩ : ByteArray) ++ ⟨b.toArray⟩ = ⟨(a ++ b).toArray⟩ := by
    apply ByteArray.ext
    simp
  have hz : ¬ 9223372036854775807 < a.length + b.length := by omega
  simp [go_sem, hz, e]
theorem method_text (n : Nd) (w : World) : (method 281 (tyV n) (payV n) "tapestry/filter.text").run Tryz.prog w = .ok (textF n, payV n) w := by
  cases n <;> kernel_rfl
theorem call_text (n : Nd) (args : Array Value) (w : World) : (callFunc (textF n) args).run Tryz.prog w = .ok (.enter (textF n) args) w := by
  cases n <;> kernel_rfl
theorem method_rank (n : Nd) (w : World) : (method 281 (tyV n) (payV n) "tapestry/filter.rank").run Tryz.prog w = .ok (rankF n, payV n) w := by
  cases n <;> kernel_rfl
theorem call_rank (n : Nd) (args : Array Value) (w : World) : (callFunc (rankF n) args).run Tryz.prog w = .ok (.enter (rankF n) args) w := by
  cases n <;> kernel_rfl
set_option maxRecDepth 100000 in
set_option maxHeartbeats 800000 in
theorem within_any (n : Nd) (t : List UInt8) (r : Nat) (ht : t.length ≤ 1000000) (w : World) (HT : Hid (∀ w', Ext w w' → Calls Tryz.prog (textF n) #[payV n] w' fun e w'' => e = .returned (str t) ∧ Ext w' w'')) :
    Calls Tryz.prog 122 #[.iface (tyV n) (payV n), fi (r : Int)] w fun e w' => e = .returned (str (Filt.within r n t)) ∧ Ext w w' := by
  have M := Mem.start w
  have HM := Lib.hid (method_text n)
  have HC := Lib.hid (call_text n)
  have HM2 := Lib.hid (method_rank n)
  have HC2 := Lib.hid (call_rank n)
  have HR := Lib.hid (rank_any n)
  have hl1 : ([40] : List UInt8).length + t.length ≤ 4000000 := by simp; omega
  have hl2 : (([40] : List UInt8) ++ t).length + ([41] : List UInt8).length ≤ 4000000 := by simp; omega
  have hcase : (decide (((rankOf n : Nat) : Int) < (r : Int)) = true ∧ decide (rankOf n < r) = true ∧ Filt.within r n t = ([40] ++ t) ++ [41]) ∨ (decide (((rankOf n : Nat) : Int) < (r : Int)) = false ∧ decide (rankOf n < r) = false ∧ Filt.within r n t = t) := by
    unfold Filt.within
    by_cases h : rankOf n < r
    · exact .inl ⟨by simp; omega, by simpa using h, by rw [if_pos h]; rfl⟩
    · exact .inr ⟨by simp; omega, by simpa using h, by rw [if_neg h]⟩
  rcases hcase with ⟨q, q', e⟩ | ⟨q, q', e⟩
  all_goals
    rw [e]
    clear e
    go_enter Tryz.func122, Tryz.ntmps122
    (try dsimp only); (repeat (first | (first | (simp only [HM.out, HC.out, Result.andThen_ok]; rw [Oper.upon_enter]; (with_reducible refine (HT.out _ M.ext_of).mono ?_); rintro _ w1 ⟨rfl, hX⟩; replace M := M.ext hX; clear hX; dsimp only) | (simp only [HM2.out, HC2.out, Result.andThen_ok]; rw [Oper.upon_enter]; (with_reducible refine (HR.out _).mono ?_); rintro _ w1 ⟨rfl, hX⟩; replace M := M.ext hX; clear hX; dsimp only) | ((with_reducible refine on_bin ?_); (first | refine wp_bin rfl rfl rfl rfl (run_cat [40] t hl1 _) ?_ | refine wp_bin rfl rfl rfl rfl (run_cat ([40] ++ t) [41] hl2 _) ?_); (first | ((with_reducible refine fastK Tryz.prog rfl ?_); go_big_move) | (with_reducible refine fastN rfl ?_) | skip))) | go_values | go_skip | go_guarded | go_step | go_upon))
    exact ret_m1 rfl (Out.tmp rfl) rfl ⟨rfl, M.ext_of⟩
end Go.Proofs.YtkblkdnihppmnaaGreatDoor
