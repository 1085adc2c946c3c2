/- Returns whose results lie in memory (layer 18's activities and events), and seats of ten and nine cells. -/
import Derived.Test.YtjmdbgbkmjlmdaaTim
namespace Go.Proofs.Ytjmdbgbkmjlmdaa
set_option linter.unusedSimpArgs false
set_option linter.unusedVariables false
open Go.RowKit

theorem ret_A {fn : Func} {R : Ending → World → Prop} {a : Go.Act} {W : World} {i : Nat} (hres : fn.results = #[.cell i 40]) {S0 : Nat} {x0 : ActV} (h0 : a.tmps.getD i undef = .pointer (some ⟨S0, 0, none⟩)) (b0 : Box W S0 40 x0.cells)
    (hd : a.defers = []) (h : R (.returned (.agg x0.cells)) W) : bodyPost Try.prog fn R .ret a W := by
  have h0' : a.tmps[i]?.getD undef = .pointer (some ⟨S0, 0, none⟩) := by simpa using h0
  have z0 := b0.cell 0
  have z1 := b0.cell 1
  have z2 := b0.cell 2
  have z3 := b0.cell 3
  have z4 := b0.cell 4
  have z5 := b0.cell 5
  have z6 := b0.cell 6
  have z7 := b0.cell 7
  have z8 := b0.cell 8
  have z9 := b0.cell 9
  simp only [ActV.cells, List.getElem?_toArray, List.getElem?_cons_zero, List.getElem?_cons_succ] at z0 z1 z2 z3 z4 z5 z6 z7 z8 z9
  refine bodyPost_ret ?_ hd h
  simp [results, hres, ActV.cells, EvV.cells, h0', z0, z1, z2, z3, z4, z5, z6, z7, z8, z9, go_sem]
theorem ret_AT {fn : Func} {R : Ending → World → Prop} {a : Go.Act} {W : World} {i j : Nat} (hres : fn.results = #[.cell i 40, .tmp j]) {S0 : Nat} {x0 : ActV} (h0 : a.tmps.getD i undef = .pointer (some ⟨S0, 0, none⟩)) (b0 : Box W S0 40 x0.cells) {v1 : Value} (h1 : a.tmps.getD j undef = v1)
    (hd : a.defers = []) (h : R (.returned (.tuple #[.agg x0.cells, v1])) W) : bodyPost Try.prog fn R .ret a W := by
  have h0' : a.tmps[i]?.getD undef = .pointer (some ⟨S0, 0, none⟩) := by simpa using h0
  have z0 := b0.cell 0
  have z1 := b0.cell 1
  have z2 := b0.cell 2
  have z3 := b0.cell 3
  have z4 := b0.cell 4
  have z5 := b0.cell 5
  have z6 := b0.cell 6
  have z7 := b0.cell 7
  have z8 := b0.cell 8
  have z9 := b0.cell 9
  simp only [ActV.cells, List.getElem?_toArray, List.getElem?_cons_zero, List.getElem?_cons_succ] at z0 z1 z2 z3 z4 z5 z6 z7 z8 z9
  have h1' : a.tmps[j]?.getD undef = v1 := by simpa using h1
  refine bodyPost_ret ?_ hd h
  simp [results, hres, ActV.cells, EvV.cells, h0', z0, z1, z2, z3, z4, z5, z6, z7, z8, z9, h1', go_sem]
theorem ret_E {fn : Func} {R : Ending → World → Prop} {a : Go.Act} {W : World} {i : Nat} (hres : fn.results = #[.cell i 51]) {S0 : Nat} {x0 : EvV} (h0 : a.tmps.getD i undef = .pointer (some ⟨S0, 0, none⟩)) (b0 : Box W S0 51 x0.cells)
    (hd : a.defers = []) (h : R (.returned (.agg x0.cells)) W) : bodyPost Try.prog fn R .ret a W := by
  have h0' : a.tmps[i]?.getD undef = .pointer (some ⟨S0, 0, none⟩) := by simpa using h0
  have z0 := b0.cell 0
  have z1 := b0.cell 1
  have z2 := b0.cell 2
  have z3 := b0.cell 3
  have z4 := b0.cell 4
  have z5 := b0.cell 5
  have z6 := b0.cell 6
  have z7 := b0.cell 7
  have z8 := b0.cell 8
  simp only [EvV.cells, List.getElem?_toArray, List.getElem?_cons_zero, List.getElem?_cons_succ] at z0 z1 z2 z3 z4 z5 z6 z7 z8
  refine bodyPost_ret ?_ hd h
  simp [results, hres, ActV.cells, EvV.cells, h0', z0, z1, z2, z3, z4, z5, z6, z7, z8, go_sem]
theorem ret_ET {fn : Func} {R : Ending → World → Prop} {a : Go.Act} {W : World} {i j : Nat} (hres : fn.results = #[.cell i 51, .tmp j]) {S0 : Nat} {x0 : EvV} (h0 : a.tmps.getD i undef = .pointer (some ⟨S0, 0, none⟩)) (b0 : Box W S0 51 x0.cells) {v1 : Value} (h1 : a.tmps.getD j undef = v1)
    (hd : a.defers = []) (h : R (.returned (.tuple #[.agg x0.cells, v1])) W) : bodyPost Try.prog fn R .ret a W := by
  have h0' : a.tmps[i]?.getD undef = .pointer (some ⟨S0, 0, none⟩) := by simpa using h0
  have z0 := b0.cell 0
  have z1 := b0.cell 1
  have z2 := b0.cell 2
  have z3 := b0.cell 3
  have z4 := b0.cell 4
  have z5 := b0.cell 5
  have z6 := b0.cell 6
  have z7 := b0.cell 7
  have z8 := b0.cell 8
  simp only [EvV.cells, List.getElem?_toArray, List.getElem?_cons_zero, List.getElem?_cons_succ] at z0 z1 z2 z3 z4 z5 z6 z7 z8
  have h1' : a.tmps[j]?.getD undef = v1 := by simpa using h1
  refine bodyPost_ret ?_ hd h
  simp [results, hres, ActV.cells, EvV.cells, h0', z0, z1, z2, z3, z4, z5, z6, z7, z8, h1', go_sem]
theorem ret_AE {fn : Func} {R : Ending → World → Prop} {a : Go.Act} {W : World} {i j : Nat} (hres : fn.results = #[.cell i 40, .cell j 51]) {S0 : Nat} {x0 : ActV} (h0 : a.tmps.getD i undef = .pointer (some ⟨S0, 0, none⟩)) (b0 : Box W S0 40 x0.cells) {S1 : Nat} {x1 : EvV} (h1 : a.tmps.getD j undef = .pointer (some ⟨S1, 0, none⟩)) (b1 : Box W S1 51 x1.cells)
    (hd : a.defers = []) (h : R (.returned (.tuple #[.agg x0.cells, .agg x1.cells])) W) : bodyPost Try.prog fn R .ret a W := by
  have h0' : a.tmps[i]?.getD undef = .pointer (some ⟨S0, 0, none⟩) := by simpa using h0
  have z0 := b0.cell 0
  have z1 := b0.cell 1
  have z2 := b0.cell 2
  have z3 := b0.cell 3
  have z4 := b0.cell 4
  have z5 := b0.cell 5
  have z6 := b0.cell 6
  have z7 := b0.cell 7
  have z8 := b0.cell 8
  have z9 := b0.cell 9
  simp only [ActV.cells, List.getElem?_toArray, List.getElem?_cons_zero, List.getElem?_cons_succ] at z0 z1 z2 z3 z4 z5 z6 z7 z8 z9
  have h1' : a.tmps[j]?.getD undef = .pointer (some ⟨S1, 0, none⟩) := by simpa using h1
  have y0 := b1.cell 0
  have y1 := b1.cell 1
  have y2 := b1.cell 2
  have y3 := b1.cell 3
  have y4 := b1.cell 4
  have y5 := b1.cell 5
  have y6 := b1.cell 6
  have y7 := b1.cell 7
  have y8 := b1.cell 8
  simp only [EvV.cells, List.getElem?_toArray, List.getElem?_cons_zero, List.getElem?_cons_succ] at y0 y1 y2 y3 y4 y5 y6 y7 y8
  refine bodyPost_ret ?_ hd h
  simp [results, hres, ActV.cells, EvV.cells, h0', z0, z1, z2, z3, z4, z5, z6, z7, z8, z9, h1', y0, y1, y2, y3, y4, y5, y6, y7, y8, go_sem]
theorem ret_AET {fn : Func} {R : Ending → World → Prop} {a : Go.Act} {W : World} {i j k : Nat} (hres : fn.results = #[.cell i 40, .cell j 51, .tmp k]) {S0 : Nat} {x0 : ActV} (h0 : a.tmps.getD i undef = .pointer (some ⟨S0, 0, none⟩)) (b0 : Box W S0 40 x0.cells) {S1 : Nat} {x1 : EvV} (h1 : a.tmps.getD j undef = .pointer (some ⟨S1, 0, none⟩)) (b1 : Box W S1 51 x1.cells) {v2 : Value} (h2 : a.tmps.getD k undef = v2)
    (hd : a.defers = []) (h : R (.returned (.tuple #[.agg x0.cells, .agg x1.cells, v2])) W) : bodyPost Try.prog fn R .ret a W := by
  have h0' : a.tmps[i]?.getD undef = .pointer (some ⟨S0, 0, none⟩) := by simpa using h0
  have z0 := b0.cell 0
  have z1 := b0.cell 1
  have z2 := b0.cell 2
  have z3 := b0.cell 3
  have z4 := b0.cell 4
  have z5 := b0.cell 5
  have z6 := b0.cell 6
  have z7 := b0.cell 7
  have z8 := b0.cell 8
  have z9 := b0.cell 9
  simp only [ActV.cells, List.getElem?_toArray, List.getElem?_cons_zero, List.getElem?_cons_succ] at z0 z1 z2 z3 z4 z5 z6 z7 z8 z9
  have h1' : a.tmps[j]?.getD undef = .pointer (some ⟨S1, 0, none⟩) := by simpa using h1
  have y0 := b1.cell 0
  have y1 := b1.cell 1
  have y2 := b1.cell 2
  have y3 := b1.cell 3
  have y4 := b1.cell 4
  have y5 := b1.cell 5
  have y6 := b1.cell 6
  have y7 := b1.cell 7
  have y8 := b1.cell 8
  simp only [EvV.cells, List.getElem?_toArray, List.getElem?_cons_zero, List.getElem?_cons_succ] at y0 y1 y2 y3 y4 y5 y6 y7 y8
  have h2' : a.tmps[k]?.getD undef = v2 := by simpa using h2
  refine bodyPost_ret ?_ hd h
  simp [results, hres, ActV.cells, EvV.cells, h0', z0, z1, z2, z3, z4, z5, z6, z7, z8, z9, h1', y0, y1, y2, y3, y4, y5, y6, y7, y8, h2', go_sem]
theorem Box.put10 {w : World} {g : Nat} {t : TypeId} {u0 u1 u2 u3 u4 u5 u6 u7 u8 u9 : Value} (h : Box w g t #[u0, u1, u2, u3, u4, u5, u6, u7, u8, u9]) (v0 v1 v2 v3 v4 v5 v6 v7 v8 v9 : Value) : Box ((((((((((w.setCell ⟨g, 0, none⟩ v0).setCell ⟨g, 1, none⟩ v1).setCell ⟨g, 2, none⟩ v2).setCell ⟨g, 3, none⟩ v3).setCell ⟨g, 4, none⟩ v4).setCell ⟨g, 5, none⟩ v5).setCell ⟨g, 6, none⟩ v6).setCell ⟨g, 7, none⟩ v7).setCell ⟨g, 8, none⟩ v8).setCell ⟨g, 9, none⟩ v9) g t #[v0, v1, v2, v3, v4, v5, v6, v7, v8, v9] := by
  have := ((((((((((h.put 0 v0).put 1 v1).put 2 v2).put 3 v3).put 4 v4).put 5 v5).put 6 v6).put 7 v7).put 8 v8).put 9 v9)
  simpa only [List.setIfInBounds_toArray, List.set_cons_zero, List.set_cons_succ] using this
theorem Fr.put10 {S : Nat → Prop} {a w : World} (h : Fr S a w) {g : Nat} (hg : ¬ S g) (v0 v1 v2 v3 v4 v5 v6 v7 v8 v9 : Value) : Fr S a ((((((((((w.setCell ⟨g, 0, none⟩ v0).setCell ⟨g, 1, none⟩ v1).setCell ⟨g, 2, none⟩ v2).setCell ⟨g, 3, none⟩ v3).setCell ⟨g, 4, none⟩ v4).setCell ⟨g, 5, none⟩ v5).setCell ⟨g, 6, none⟩ v6).setCell ⟨g, 7, none⟩ v7).setCell ⟨g, 8, none⟩ v8).setCell ⟨g, 9, none⟩ v9) := ((((((((((h.set (p := ⟨g, 0, none⟩) v0 (fun _ => hg)).set (p := ⟨g, 1, none⟩) v1 (fun _ => hg)).set (p := ⟨g, 2, none⟩) v2 (fun _ => hg)).set (p := ⟨g, 3, none⟩) v3 (fun _ => hg)).set (p := ⟨g, 4, none⟩) v4 (fun _ => hg)).set (p := ⟨g, 5, none⟩) v5 (fun _ => hg)).set (p := ⟨g, 6, none⟩) v6 (fun _ => hg)).set (p := ⟨g, 7, none⟩) v7 (fun _ => hg)).set (p := ⟨g, 8, none⟩) v8 (fun _ => hg)).set (p := ⟨g, 9, none⟩) v9 (fun _ => hg))
theorem Box.put9 {w : World} {g : Nat} {t : TypeId} {u0 u1 u2 u3 u4 u5 u6 u7 u8 : Value} (h : Box w g t #[u0, u1, u2, u3, u4, u5, u6, u7, u8]) (v0 v1 v2 v3 v4 v5 v6 v7 v8 : Value) : Box (((((((((w.setCell ⟨g, 0, none⟩ v0).setCell ⟨g, 1, none⟩ v1).setCell ⟨g, 2, none⟩ v2).setCell ⟨g, 3, none⟩ v3).setCell ⟨g, 4, none⟩ v4).setCell ⟨g, 5, none⟩ v5).setCell ⟨g, 6, none⟩ v6).setCell ⟨g, 7, none⟩ v7).setCell ⟨g, 8, none⟩ v8) g t #[v0, v1, v2, v3, v4, v5, v6, v7, v8] := by
  have := (((((((((h.put 0 v0).put 1 v1).put 2 v2).put 3 v3).put 4 v4).put 5 v5).put 6 v6).put 7 v7).put 8 v8)
  simpa only [List.setIfInBounds_toArray, List.set_cons_zero, List.set_cons_succ] using this
theorem Fr.put9 {S : Nat → Prop} {a w : World} (h : Fr S a w) {g : Nat} (hg : ¬ S g) (v0 v1 v2 v3 v4 v5 v6 v7 v8 : Value) : Fr S a (((((((((w.setCell ⟨g, 0, none⟩ v0).setCell ⟨g, 1, none⟩ v1).setCell ⟨g, 2, none⟩ v2).setCell ⟨g, 3, none⟩ v3).setCell ⟨g, 4, none⟩ v4).setCell ⟨g, 5, none⟩ v5).setCell ⟨g, 6, none⟩ v6).setCell ⟨g, 7, none⟩ v7).setCell ⟨g, 8, none⟩ v8) := (((((((((h.set (p := ⟨g, 0, none⟩) v0 (fun _ => hg)).set (p := ⟨g, 1, none⟩) v1 (fun _ => hg)).set (p := ⟨g, 2, none⟩) v2 (fun _ => hg)).set (p := ⟨g, 3, none⟩) v3 (fun _ => hg)).set (p := ⟨g, 4, none⟩) v4 (fun _ => hg)).set (p := ⟨g, 5, none⟩) v5 (fun _ => hg)).set (p := ⟨g, 6, none⟩) v6 (fun _ => hg)).set (p := ⟨g, 7, none⟩) v7 (fun _ => hg)).set (p := ⟨g, 8, none⟩) v8 (fun _ => hg))
end Go.Proofs.Ytjmdbgbkmjlmdaa
