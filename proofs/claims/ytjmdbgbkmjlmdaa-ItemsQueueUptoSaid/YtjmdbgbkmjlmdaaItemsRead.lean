/- States and programs as arguments: what they read as (layer 20). -/
import Derived.Test.YtjmdbgbkmjlmdaaItemsE
import Derived.Test.YtjmdbgbkmjlmdaaFlat2
import Derived.Test.YtjmdbgbkmjlmdaaRows
import Derived.OpenShut
namespace Go.Proofs.Ytjmdbgbkmjlmdaa
set_option linter.unusedSimpArgs false
set_option linter.unusedVariables false
open Go.RowKit Go.Deep

section
variable {H : Type} {enc : TypeId × Value → H} {P : Program} {w : World} {base : Nat} {spare : Nat → Bool} {held : Bool} {t : TypeId} {fuel : Nat} {cs : List Value} {x : DataW H × List MemPlace}
/-- a field of a struct that came in -/
theorem fld {fs : Array Field} (ht : P.underlying t = some (.struct fs)) (h : DataW.trod enc P w base spare held fuel t cs = some x) (i off k : Nat) (hi : decide (i < fs.size) = true) (ho : (fs.getD i default).offset = off) (hk : P.cellsOf (fs.getD i default).type = k) :
    ∃ y n, DataW.trod enc P w base spare held n (fs.getD i default).type ((cs.drop off).take k) = some y ∧ Rows.uptoBulk y.1 ≤ Rows.uptoBulk x.1 := by
  obtain ⟨xs, n, _, rfl, hl, hlen, hf⟩ := DataW.trod_struct ht h
  have hi' : i < fs.size := by simpa using hi
  have he : fs.getD i default = fs[i] := by simp [Array.getD, hi']
  have h1 := hf i fs[i] (Array.getElem?_eq_getElem hi')
  rw [he] at ho hk ⊢
  subst ho hk
  have hx : i < xs.length := by omega
  refine ⟨xs[i], n, by rw [h1, List.getElem?_eq_getElem hx], ?_⟩
  have := bulk_part (d := xs[i].1) (l := xs.map (·.1)) (List.mem_map.2 ⟨xs[i], List.getElem_mem hx, rfl⟩)
  simp only [Rows.uptoBulk]
  omega
theorem fld_len {fs : Array Field} (ht : P.underlying t = some (.struct fs)) (h : DataW.trod enc P w base spare held fuel t cs = some x) : cs.length = P.cellsOf t := by
  obtain ⟨xs, n, _, rfl, hl, hlen, hf⟩ := DataW.trod_struct ht h
  exact hl
theorem one_of {a v : Value} {l : List Value} {off : Nat} (h : (l.drop off).take 1 = [v]) (ha : l[off]? = some a) : a = v := by
  have h1 : l[off]? = some v := by
    have := congrArg (fun x => x[0]?) h
    simpa using this
  rw [ha] at h1
  exact Option.some.inj h1
theorem fld_int {fs : Array Field} (ht : P.underlying t = some (.struct fs)) (h : DataW.trod enc P w base spare held fuel t cs = some x) (i off : Nat) (hi : decide (i < fs.size) = true) (ho : (fs.getD i default).offset = off) (hk : P.cellsOf (fs.getD i default).type = 1) (hu : P.underlying (fs.getD i default).type = some (.int .i64)) {a : Value} (ha : cs[off]? = some a) : ∃ n : Int, a = .int .i64 n := by
  obtain ⟨y, n, h1, -⟩ := fld ht h i off 1 hi ho hk
  obtain ⟨v, h2, -⟩ := read_i64 hu h1
  exact ⟨v, one_of h2 ha⟩
theorem fld_str {fs : Array Field} (ht : P.underlying t = some (.struct fs)) (h : DataW.trod enc P w base spare held fuel t cs = some x) (i off : Nat) (hi : decide (i < fs.size) = true) (ho : (fs.getD i default).offset = off) (hk : P.cellsOf (fs.getD i default).type = 1) (hu : P.underlying (fs.getD i default).type = some .string) {a : Value} (ha : cs[off]? = some a) : ∃ l : List UInt8, a = str l := by
  obtain ⟨y, n, h1, -⟩ := fld ht h i off 1 hi ho hk
  obtain ⟨v, h2, -⟩ := read_str hu h1
  exact ⟨v, one_of h2 ha⟩
/-- a slice of which only this is asked, that it is one -/
theorem fld_slice {fs : Array Field} {e : TypeId} (ht : P.underlying t = some (.struct fs)) (h : DataW.trod enc P w base spare held fuel t cs = some x) (i off : Nat) (hi : decide (i < fs.size) = true) (ho : (fs.getD i default).offset = off) (hk : P.cellsOf (fs.getD i default).type = 1) (hu : P.underlying (fs.getD i default).type = some (.slice e)) {a : Value} (ha : cs[off]? = some a) : ∃ (A : Option Addr) (n c : Nat), a = .slice A n c := by
  obtain ⟨y, n, h1, -⟩ := fld ht h i off 1 hi ho hk
  rcases Deep.open_slice hu h1 with ⟨h2, -⟩ | ⟨ad, len, cap, mm, k, D, Pl, h2, -⟩
  · exact ⟨none, 0, 0, one_of h2 ha⟩
  · exact ⟨some ad, len, cap, one_of h2 ha⟩
theorem fld_rows {fs : Array Field} {e : TypeId} {sz : Nat} {α : Type} (R : α → List Value → Prop) (m : α → Nat) (ht : P.underlying t = some (.struct fs)) (h : DataW.trod enc P w base spare held fuel t cs = some x) (i off : Nat) (hi : decide (i < fs.size) = true) (ho : (fs.getD i default).offset = off) (hk : P.cellsOf (fs.getD i default).type = 1) (hu : P.underlying (fs.getD i default).type = some (.slice e)) (hsz : P.cellsOf e = sz) (hpos : 0 < sz)
    (helem : ∀ fuel cs x, DataW.trod enc P w base spare held fuel e cs = some x → ∃ y : α, R y cs ∧ m y ≤ Rows.uptoBulk x.1) {a : Value} (ha : cs[off]? = some a) :
    ∃ (A : Option Addr) (c : Nat) (l : List α), a = .slice A l.length c ∧ RowR R w base w.heap.size sz A l ∧ l.length ≤ Rows.uptoBulk x.1 ∧ ∀ y ∈ l, m y ≤ Rows.uptoBulk x.1 := by
  obtain ⟨y, n, h1, hb⟩ := fld ht h i off 1 hi ho hk
  obtain ⟨A, c, l, h2, h3, -, -, h4, h5⟩ := read_slice R m hu hsz hpos helem h1
  exact ⟨A, c, l, one_of h2 ha, h3, by omega, fun y hy => Nat.le_trans (h5 y hy) hb⟩
theorem fld_ints {fs : Array Field} {n : Nat} {e : TypeId} (ht : P.underlying t = some (.struct fs)) (h : DataW.trod enc P w base spare held fuel t cs = some x) (i off : Nat) (hi : decide (i < fs.size) = true) (ho : (fs.getD i default).offset = off) (hk : P.cellsOf (fs.getD i default).type = n) (hu : P.underlying (fs.getD i default).type = some (.array n e)) (he : P.underlying e = some (.int .i64)) (hc : P.cellsOf e = 1) (j : Nat) (hj : j < n) {a : Value} (ha : cs[off + j]? = some a) : ∃ v : Int, a = .int .i64 v := by
  obtain ⟨y, k, h1, -⟩ := fld ht h i off n hi ho hk
  obtain ⟨xs, m, -, -, -, hlen, hf⟩ := DataW.trod_array hu h1
  have h2 := hf j hj
  rw [hc, Nat.mul_one, List.getElem?_eq_getElem (by omega)] at h2
  obtain ⟨v, h3, -⟩ := read_i64 he h2
  refine ⟨v, one_of (off := j) h3 ?_⟩
  rw [List.getElem?_take_of_lt hj, List.getElem?_drop]
  exact ha
end
theorem list20 {α : Type} {xs : List α} (h : xs.length = 20) : ∃ a b c d e f g i j k l m n o p q r s t u, xs = [a, b, c, d, e, f, g, i, j, k, l, m, n, o, p, q, r, s, t, u] := by
  match xs, h with
  | [a, b, c, d, e, f, g, i, j, k, l, m, n, o, p, q, r, s, t, u], _ => exact ⟨a, b, c, d, e, f, g, i, j, k, l, m, n, o, p, q, r, s, t, u, rfl⟩
theorem list15 {α : Type} {xs : List α} (h : xs.length = 15) : ∃ a b c d e f g i j k l m n o p, xs = [a, b, c, d, e, f, g, i, j, k, l, m, n, o, p] := by
  match xs, h with
  | [a, b, c, d, e, f, g, i, j, k, l, m, n, o, p], _ => exact ⟨a, b, c, d, e, f, g, i, j, k, l, m, n, o, p, rfl⟩
section
variable {H : Type} {enc : TypeId × Value → H} {w : World} {base : Nat} {spare : Nat → Bool} {held : Bool}
theorem read_act (fuel : Nat) (cs : List Value) (x : DataW H × List MemPlace) (h : DataW.trod enc Try.prog w base spare held fuel 40 cs = some x) : ∃ y : ActV, cs = y.cells.toList ∧ 0 ≤ Rows.uptoBulk x.1 := by
  have fl1 : flatR Try.prog 40 10 = true := by kernel_rfl
  obtain ⟨x1, e1, l1, i1⟩ := read_flat fl1 h
  obtain ⟨b0, b1, b2, b3, b4, b5, b6, b7, b8, b9, rfl⟩ := list10 l1
  exact ⟨⟨b0, b1, b2, b3, b4, b5, b6, b7, b8, b9⟩, e1, Nat.zero_le _⟩
theorem read_opt (fuel : Nat) (cs : List Value) (x : DataW H × List MemPlace) (h : DataW.trod enc Try.prog w base spare held fuel 42 cs = some x) : ∃ y : OptV, cs = y.cells.toList ∧ 0 ≤ Rows.uptoBulk x.1 := by
  have fl1 : flatR Try.prog 42 11 = true := by kernel_rfl
  obtain ⟨x1, e1, l1, i1⟩ := read_flat fl1 h
  obtain ⟨b0, b1, b2, b3, b4, b5, b6, b7, b8, b9, b10, rfl⟩ := list11 l1
  exact ⟨⟨b0, b1, b2, b3, b4, b5, b6, b7, b8, b9, b10⟩, e1, Nat.zero_le _⟩
theorem run_under : Try.prog.underlying 38 = some (.struct (Try.prog.fieldsOf 38)) := by kernel_rfl
theorem prog_under : Try.prog.underlying 95 = some (.struct (Try.prog.fieldsOf 95)) := by kernel_rfl
theorem state_under : Try.prog.underlying 26 = some (.struct (Try.prog.fieldsOf 26)) := by kernel_rfl
theorem call_under : Try.prog.underlying 79 = some (.struct (Try.prog.fieldsOf 79)) := by kernel_rfl
theorem read_run (fuel : Nat) (cs : List Value) (x : DataW H × List MemPlace) (h : DataW.trod enc Try.prog w base spare held fuel 38 cs = some x) :
    ∃ r : RunD, (cs = r.cells ∧ Row w base w.heap.size 10 r.aA r.acts.length (r.acts.flatMap fun a => a.cells.toList)) ∧ r.acts.length ≤ Rows.uptoBulk x.1 := by
  have hl := fld_len run_under h
  rw [show Try.prog.cellsOf 38 = 20 by kernel_rfl] at hl
  obtain ⟨c0, c1, c2, c3, c4, c5, c6, c7, c8, c9, c10, c11, c12, c13, c14, c15, c16, c17, c18, c19, rfl⟩ := list20 hl
  obtain ⟨n0, rfl⟩ := fld_int run_under h 0 0 (by kernel_rfl) (by kernel_rfl) (by kernel_rfl) (by kernel_rfl) rfl
  obtain ⟨n1, rfl⟩ := fld_int run_under h 1 1 (by kernel_rfl) (by kernel_rfl) (by kernel_rfl) (by kernel_rfl) rfl
  obtain ⟨n2, rfl⟩ := fld_int run_under h 2 2 (by kernel_rfl) (by kernel_rfl) (by kernel_rfl) (by kernel_rfl) rfl
  obtain ⟨n3, rfl⟩ := fld_str run_under h 3 3 (by kernel_rfl) (by kernel_rfl) (by kernel_rfl) (by kernel_rfl) rfl
  obtain ⟨n4, rfl⟩ := fld_int run_under h 4 4 (by kernel_rfl) (by kernel_rfl) (by kernel_rfl) (by kernel_rfl) rfl
  obtain ⟨n5, rfl⟩ := fld_int run_under h 5 5 (by kernel_rfl) (by kernel_rfl) (by kernel_rfl) (by kernel_rfl) rfl
  obtain ⟨n6, rfl⟩ := fld_int run_under h 6 6 (by kernel_rfl) (by kernel_rfl) (by kernel_rfl) (by kernel_rfl) rfl
  obtain ⟨n7, rfl⟩ := fld_int run_under h 7 7 (by kernel_rfl) (by kernel_rfl) (by kernel_rfl) (by kernel_rfl) rfl
  obtain ⟨n8, rfl⟩ := fld_int run_under h 8 8 (by kernel_rfl) (by kernel_rfl) (by kernel_rfl) (by kernel_rfl) rfl
  obtain ⟨n9, rfl⟩ := fld_int run_under h 9 9 (by kernel_rfl) (by kernel_rfl) (by kernel_rfl) (by kernel_rfl) rfl
  obtain ⟨n10, rfl⟩ := fld_int run_under h 10 10 (by kernel_rfl) (by kernel_rfl) (by kernel_rfl) (by kernel_rfl) rfl
  obtain ⟨n11, rfl⟩ := fld_ints (n := 4) (e := 2) run_under h 11 11 (by kernel_rfl) (by kernel_rfl) (by kernel_rfl) (by kernel_rfl) (by kernel_rfl) (by kernel_rfl) 0 (by omega) rfl
  obtain ⟨n12, rfl⟩ := fld_ints (n := 4) (e := 2) run_under h 11 11 (by kernel_rfl) (by kernel_rfl) (by kernel_rfl) (by kernel_rfl) (by kernel_rfl) (by kernel_rfl) 1 (by omega) rfl
  obtain ⟨n13, rfl⟩ := fld_ints (n := 4) (e := 2) run_under h 11 11 (by kernel_rfl) (by kernel_rfl) (by kernel_rfl) (by kernel_rfl) (by kernel_rfl) (by kernel_rfl) 2 (by omega) rfl
  obtain ⟨n14, rfl⟩ := fld_ints (n := 4) (e := 2) run_under h 11 11 (by kernel_rfl) (by kernel_rfl) (by kernel_rfl) (by kernel_rfl) (by kernel_rfl) (by kernel_rfl) 3 (by omega) rfl
  obtain ⟨eA, eN, eC, rfl⟩ := fld_slice (e := 51) run_under h 12 15 (by kernel_rfl) (by kernel_rfl) (by kernel_rfl) (by kernel_rfl) rfl
  obtain ⟨aA, aC, l, rfl, hr, hn, -⟩ := fld_rows (e := 40) (sz := 10) (fun (y : ActV) cs => cs = y.cells.toList) (fun _ => 0) run_under h 13 16 (by kernel_rfl) (by kernel_rfl) (by kernel_rfl) (by kernel_rfl) (by kernel_rfl) (by decide) read_act rfl
  obtain ⟨tA, tN, tC, rfl⟩ := fld_slice (e := 84) run_under h 14 17 (by kernel_rfl) (by kernel_rfl) (by kernel_rfl) (by kernel_rfl) rfl
  obtain ⟨kA, kN, kC, rfl⟩ := fld_slice (e := 190) run_under h 15 18 (by kernel_rfl) (by kernel_rfl) (by kernel_rfl) (by kernel_rfl) rfl
  obtain ⟨uA, uN, uC, rfl⟩ := fld_slice (e := 192) run_under h 16 19 (by kernel_rfl) (by kernel_rfl) (by kernel_rfl) (by kernel_rfl) rfl
  exact ⟨⟨n0, n1, n2, n3, n4, n5, n6, n7, n8, n9, n10, n11, n12, n13, n14, eA, eN, eC, aA, aC, l, tA, tN, tC, kA, kN, kC, uA, uN, uC⟩, ⟨rfl, hr.plain⟩, hn⟩
theorem read_prog (fuel : Nat) (cs : List Value) (x : DataW H × List MemPlace) (h : DataW.trod enc Try.prog w base spare held fuel 95 cs = some x) :
    ∃ p : ProgD, (cs = p.cells ∧ Row w base w.heap.size 11 p.oA p.opts.length (p.opts.flatMap fun a => a.cells.toList)) ∧ p.opts.length ≤ Rows.uptoBulk x.1 := by
  have hl := fld_len prog_under h
  rw [show Try.prog.cellsOf 95 = 2 by kernel_rfl] at hl
  obtain ⟨c0, c1, rfl⟩ := list2 hl
  obtain ⟨aA, aC, l, rfl, hr, hn, -⟩ := fld_rows (e := 42) (sz := 11) (fun (y : OptV) cs => cs = y.cells.toList) (fun _ => 0) prog_under h 1 1 (by kernel_rfl) (by kernel_rfl) (by kernel_rfl) (by kernel_rfl) (by kernel_rfl) (by decide) read_opt rfl
  exact ⟨⟨c0, aA, aC, l⟩, ⟨rfl, hr.plain⟩, hn⟩
theorem rows_facts {α : Type} {f : α → List Value} {p : α → Prop} {lo hi sz : Nat} {A : Option Addr} {l : List α} (h : RowR (fun y cs => cs = f y ∧ p y) w lo hi sz A l) : Row w lo hi sz A l.length (l.flatMap f) ∧ ∀ y ∈ l, p y := by
  obtain ⟨prs, rfl, hp, hr⟩ := h
  refine ⟨RowR.plain ⟨prs, rfl, fun q hq => ⟨(hp q hq).1.1, (hp q hq).2⟩, hr⟩, fun y hy => ?_⟩
  obtain ⟨q, hq, rfl⟩ := List.mem_map.1 hy
  exact (hp q hq).1.2
theorem read_state {fuel : Nat} {cs : List Value} {x : DataW H × List MemPlace} (h : DataW.trod enc Try.prog w base spare held fuel 26 cs = some x) :
    ∃ (now nxt seq : Int) (A : Option Addr) (c : Nat) (rs : List RunD) (outs once : Value), cs = [.int .i64 now, .int .i64 nxt, .int .i64 seq, .slice A rs.length c, outs, once] ∧ RunsAt w A rs ∧ rs.length ≤ Rows.uptoBulk x.1 ∧ ∀ r ∈ rs, r.acts.length ≤ Rows.uptoBulk x.1 := by
  have hl := fld_len state_under h
  rw [show Try.prog.cellsOf 26 = 6 by kernel_rfl] at hl
  obtain ⟨c0, c1, c2, c3, c4, c5, rfl⟩ := list6 hl
  obtain ⟨n0, rfl⟩ := fld_int state_under h 0 0 (by kernel_rfl) (by kernel_rfl) (by kernel_rfl) (by kernel_rfl) rfl
  obtain ⟨n1, rfl⟩ := fld_int state_under h 1 1 (by kernel_rfl) (by kernel_rfl) (by kernel_rfl) (by kernel_rfl) rfl
  obtain ⟨n2, rfl⟩ := fld_int state_under h 2 2 (by kernel_rfl) (by kernel_rfl) (by kernel_rfl) (by kernel_rfl) rfl
  obtain ⟨A, c, l, rfl, hr, hn, hm⟩ := fld_rows (e := 38) (sz := 20) (fun (r : RunD) cs => cs = r.cells ∧ Row w base w.heap.size 10 r.aA r.acts.length (r.acts.flatMap fun a => a.cells.toList)) (fun r => r.acts.length) state_under h 3 3 (by kernel_rfl) (by kernel_rfl) (by kernel_rfl) (by kernel_rfl) (by kernel_rfl) (by decide) read_run rfl
  obtain ⟨h1, h2⟩ := rows_facts hr
  exact ⟨n0, n1, n2, A, c, l, c4, c5, rfl, ⟨h1.wide (Nat.zero_le _) (Nat.le_refl _), fun r hr => (h2 r hr).wide (Nat.zero_le _) (Nat.le_refl _)⟩, hn, hm⟩
theorem read_progs {fuel : Nat} {cs : List Value} {x : DataW H × List MemPlace} (h : DataW.trod enc Try.prog w base spare held fuel 27 cs = some x) :
    ∃ (A : Option Addr) (c : Nat) (ps : List ProgD), cs = [.slice A ps.length c] ∧ ProgsAt w A ps ∧ ps.length ≤ Rows.uptoBulk x.1 ∧ ∀ p ∈ ps, p.opts.length ≤ Rows.uptoBulk x.1 := by
  obtain ⟨A, c, l, h1, hr, -, -, hn, hm⟩ := read_slice (sz := 2) (fun (p : ProgD) cs => cs = p.cells ∧ Row w base w.heap.size 11 p.oA p.opts.length (p.opts.flatMap fun a => a.cells.toList)) (fun p => p.opts.length) Try.underlying27 (by kernel_rfl) (by decide) read_prog h
  obtain ⟨h2, h3⟩ := rows_facts hr
  exact ⟨A, c, l, h1, ⟨h2.wide (Nat.zero_le _) (Nat.le_refl _), fun r hr => (h3 r hr).wide (Nat.zero_le _) (Nat.le_refl _)⟩, by omega, hm⟩
theorem read_call {fuel : Nat} {cs : List Value} {x : DataW H × List MemPlace} (h : DataW.trod enc Try.prog w base spare held fuel 79 cs = some x) :
    ∃ (id : List UInt8) (run q : Int) (k0 k3 k4 k5 k6 k8 k9 k10 k11 k12 k13 k14 : Value), cs = [k0, str id, .int .i64 run, k3, k4, k5, k6, .int .i64 q, k8, k9, k10, k11, k12, k13, k14] := by
  have hl := fld_len call_under h
  rw [show Try.prog.cellsOf 79 = 15 by kernel_rfl] at hl
  obtain ⟨c0, c1, c2, c3, c4, c5, c6, c7, c8, c9, c10, c11, c12, c13, c14, rfl⟩ := list15 hl
  obtain ⟨n1, rfl⟩ := fld_str call_under h 1 1 (by kernel_rfl) (by kernel_rfl) (by kernel_rfl) (by kernel_rfl) rfl
  obtain ⟨n2, rfl⟩ := fld_int call_under h 2 2 (by kernel_rfl) (by kernel_rfl) (by kernel_rfl) (by kernel_rfl) rfl
  obtain ⟨n7, rfl⟩ := fld_int call_under h 7 7 (by kernel_rfl) (by kernel_rfl) (by kernel_rfl) (by kernel_rfl) rfl
  exact ⟨n1, n2, n7, c0, c3, c4, c5, c6, c8, c9, c10, c11, c12, c13, c14, rfl⟩
end
end Go.Proofs.Ytjmdbgbkmjlmdaa
