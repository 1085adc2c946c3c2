/- The laws WalNames and ManifestNames (layers 5 and 10): the laws' walks. -/
import Derived.Test.YtkbffgnhiohpcaaDoorHexH
namespace Go.Proofs.YtkbffgnhiohpcaaDoor
set_option linter.unusedSimpArgs false
set_option linter.unusedVariables false
open Go.RowKit Res

set_option maxRecDepth 100000 in
set_option maxHeartbeats 800000 in
theorem walNames_walk (n : Nat) (hn : n < 18446744073709551616) (s : List UInt8) (hs : s.length ≤ 140737488355328) (w : World) (ht : Tz w) (hE : Ev w) :
    Calls Tryd.prog 3 #[.int .u64 n, str s] w fun e w' => e = .returned (.bool true) ∧ Ext w w' := by
  have hlen : (hexDigs 16 n).length = 16 := hexDigs_length 16 n
  have hb := numb_back logT n hn
  obtain ⟨nm, hnm⟩ : ∃ nm, nm = logT ++ hexDigs 16 n := ⟨_, rfl⟩
  have hml : nm.length ≤ 140737488355328 := by rw [hnm, List.length_append, hlen]; decide
  have H1 : Hid (∀ w', Ext w w' → Calls Tryd.prog 7 #[.int .u64 n] w' fun e w'' => e = .returned (str nm) ∧ Ext w' w'') := Lib.hid (fun w' hx => by rw [hnm]; exact wal_name n hn w' (ht.ext hx))
  have H2 : Hid (∀ w', Ext w w' → Calls Tryd.prog 8 #[str nm] w' fun e w'' => e = .returned (.tuple #[.int .u64 (n : Int), .bool true]) ∧ Ext w' w'') := Lib.hid (fun w' hx => (log_number nm hml w' (ht.ext hx) (hE.ext hx)).mono fun e w'' ⟨h1, h2⟩ => ⟨by rw [h1, hnm, hb], h2⟩)
  have H3 : Hid (∀ w', Ext w w' → Calls Tryd.prog 8 #[str s] w' fun e w'' => e = .returned (.tuple #[.int .u64 ((numbR logT s).1 : Int), .bool (numbR logT s).2]) ∧ Ext w' w'') := Lib.hid (fun w' hx => log_number s hs w' (ht.ext hx) (hE.ext hx))
  have H4 : Hid (∀ w', Calls Tryd.prog 9 #[str s] w' fun e w'' => e = .returned (.tuple #[.int .u64 ((numbR logT s).1 : Int), .bool (numbR logT s).2]) ∧ w' = w'') := Lib.hid (fun w' => log_numbered s hs w')
  have H5 : Hid (∀ w', Calls Tryd.prog 10 #[.int .u64 n] w' fun e w'' => e = .returned (str nm) ∧ Ext w' w'') := Lib.hid (fun w' => by rw [hnm]; exact log_ref n hn w')
  clear hb hnm hlen ht hE
  generalize numbR logT s = r at *
  have M := Mem.start w
  go_enter Tryd.func3, Tryd.ntmps3
  go_wp2_with (first | (go_at_call 7; (with_reducible refine (H1.out _ M.ext_of).mono ?_); rintro e w1 ⟨rfl, hX⟩; replace M := M.ext hX; clear hX) | (go_at_call 8; (first | (with_reducible refine (H2.out _ M.ext_of).mono ?_) | (with_reducible refine (H3.out _ M.ext_of).mono ?_)); rintro e w1 ⟨rfl, hX⟩; replace M := M.ext hX; clear hX) | (go_at_call 9; (with_reducible refine (H4.out _).mono ?_); rintro e w1 ⟨rfl, rfl⟩) | (go_at_call 10; (with_reducible refine (H5.out _).mono ?_); rintro e w1 ⟨rfl, hX⟩; replace M := M.ext hX; clear hX))
  go_ret
  exact ⟨rfl, M.ext_of⟩
theorem numb_cross (n : Nat) : numbR manT (tabT ++ hexDigs 16 n) = (0, false) := by
  unfold numbR
  refine if_neg fun x => ?_
  have := x.1
  rw [List.length_append, hexDigs_length] at this
  simp at this
set_option maxRecDepth 100000 in
set_option maxHeartbeats 800000 in
theorem manifestNames_walk (n : Nat) (hn : n < 18446744073709551616) (s : List UInt8) (hs : s.length ≤ 140737488355328) (w : World) (ht : Tz w) (hE : Ev w) :
    Calls Tryd.prog 4 #[.int .u64 n, str s] w fun e w' => e = .returned (.bool true) ∧ Ext w w' := by
  have hlen : (hexDigs 16 n).length = 16 := hexDigs_length 16 n
  have hb1 := numb_back manT n hn
  have hb2 := numb_back tabT n hn
  have hb3 := numb_cross n
  obtain ⟨na, hna⟩ : ∃ na, na = manT ++ hexDigs 16 n := ⟨_, rfl⟩
  obtain ⟨nb, hnb⟩ : ∃ nb, nb = tabT ++ hexDigs 16 n := ⟨_, rfl⟩
  have hml : na.length ≤ 140737488355328 := by rw [hna, List.length_append, hlen]; decide
  have hmb : nb.length ≤ 140737488355328 := by rw [hnb, List.length_append, hlen]; decide
  have H1 : Hid (∀ w', Ext w w' → Calls Tryd.prog 11 #[.int .u64 n] w' fun e w'' => e = .returned (str na) ∧ Ext w' w'') := Lib.hid (fun w' hx => by rw [hna]; exact man_any n hn w' (ht.ext hx))
  have H2 : Hid (∀ w', Ext w w' → Calls Tryd.prog 12 #[.int .u64 n] w' fun e w'' => e = .returned (str nb) ∧ Ext w' w'') := Lib.hid (fun w' hx => by rw [hnb]; exact tab_any n hn w' (ht.ext hx))
  have H3 : Hid (∀ w', Ext w w' → Calls Tryd.prog 13 #[str na] w' fun e w'' => e = .returned (.tuple #[.int .u64 (n : Int), .bool true]) ∧ Ext w' w'') := Lib.hid (fun w' hx => (man_number na hml w' (ht.ext hx) (hE.ext hx)).mono fun e w'' ⟨h1, h2⟩ => ⟨by rw [h1, hna, hb1], h2⟩)
  have H4 : Hid (∀ w', Ext w w' → Calls Tryd.prog 14 #[str nb] w' fun e w'' => e = .returned (.tuple #[.int .u64 (n : Int), .bool true]) ∧ Ext w' w'') := Lib.hid (fun w' hx => (tab_number nb hmb w' (ht.ext hx) (hE.ext hx)).mono fun e w'' ⟨h1, h2⟩ => ⟨by rw [h1, hnb, hb2], h2⟩)
  have H5 : Hid (∀ w', Ext w w' → Calls Tryd.prog 13 #[str nb] w' fun e w'' => e = .returned (.tuple #[.int .u64 0, .bool false]) ∧ Ext w' w'') := Lib.hid (fun w' hx => (man_number nb hmb w' (ht.ext hx) (hE.ext hx)).mono fun e w'' ⟨h1, h2⟩ => ⟨by rw [h1, hnb, hb3]; rfl, h2⟩)
  have H6 : Hid (∀ w', Ext w w' → Calls Tryd.prog 13 #[str s] w' fun e w'' => e = .returned (.tuple #[.int .u64 ((numbR manT s).1 : Int), .bool (numbR manT s).2]) ∧ Ext w' w'') := Lib.hid (fun w' hx => man_number s hs w' (ht.ext hx) (hE.ext hx))
  have H7 : Hid (∀ w', Ext w w' → Calls Tryd.prog 14 #[str s] w' fun e w'' => e = .returned (.tuple #[.int .u64 ((numbR tabT s).1 : Int), .bool (numbR tabT s).2]) ∧ Ext w' w'') := Lib.hid (fun w' hx => tab_number s hs w' (ht.ext hx) (hE.ext hx))
  have H8 : Hid (∀ w', Calls Tryd.prog 15 #[str s] w' fun e w'' => e = .returned (.tuple #[.int .u64 ((numbR manT s).1 : Int), .bool (numbR manT s).2]) ∧ w' = w'') := Lib.hid (fun w' => man_numbered s hs w')
  have H9 : Hid (∀ w', Calls Tryd.prog 16 #[str s] w' fun e w'' => e = .returned (.tuple #[.int .u64 ((numbR tabT s).1 : Int), .bool (numbR tabT s).2]) ∧ w' = w'') := Lib.hid (fun w' => tab_numbered s hs w')
  have HA : Hid (∀ w', Calls Tryd.prog 17 #[.int .u64 n] w' fun e w'' => e = .returned (str na) ∧ Ext w' w'') := Lib.hid (fun w' => by rw [hna]; exact man_ref n hn w')
  have HB : Hid (∀ w', Calls Tryd.prog 18 #[.int .u64 n] w' fun e w'' => e = .returned (str nb) ∧ Ext w' w'') := Lib.hid (fun w' => by rw [hnb]; exact tab_ref n hn w')
  clear hb1 hb2 hb3 hna hnb hlen ht hE
  generalize numbR manT s = r at *
  generalize numbR tabT s = q at *
  have M := Mem.start w
  go_enter Tryd.func4, Tryd.ntmps4
  go_wp2_with (first | (go_at_call 11; (with_reducible refine (H1.out _ M.ext_of).mono ?_); rintro e w1 ⟨rfl, hX⟩; replace M := M.ext hX; clear hX) | (go_at_call 12; (with_reducible refine (H2.out _ M.ext_of).mono ?_); rintro e w1 ⟨rfl, hX⟩; replace M := M.ext hX; clear hX) | (go_at_call 13; (first | (with_reducible refine (H3.out _ M.ext_of).mono ?_) | (with_reducible refine (H5.out _ M.ext_of).mono ?_) | (with_reducible refine (H6.out _ M.ext_of).mono ?_)); rintro e w1 ⟨rfl, hX⟩; replace M := M.ext hX; clear hX) | (go_at_call 14; (first | (with_reducible refine (H4.out _ M.ext_of).mono ?_) | (with_reducible refine (H7.out _ M.ext_of).mono ?_)); rintro e w1 ⟨rfl, hX⟩; replace M := M.ext hX; clear hX) | (go_at_call 15; (with_reducible refine (H8.out _).mono ?_); rintro e w1 ⟨rfl, rfl⟩) | (go_at_call 16; (with_reducible refine (H9.out _).mono ?_); rintro e w1 ⟨rfl, rfl⟩) | (go_at_call 17; (with_reducible refine (HA.out _).mono ?_); rintro e w1 ⟨rfl, hX⟩; replace M := M.ext hX; clear hX) | (go_at_call 18; (with_reducible refine (HB.out _).mono ?_); rintro e w1 ⟨rfl, hX⟩; replace M := M.ext hX; clear hX))
  go_ret
  exact ⟨rfl, M.ext_of⟩
end Go.Proofs.YtkbffgnhiohpcaaDoor
