/-
  PathPieces returns true.
-/
import Derived.Test.YtpiecifdjfleaaaDoorPc3
namespace Go.Proofs.YtpiecifdjfleaaaDoor
set_option linter.unusedSimpArgs false
set_option linter.unusedVariables false
open Go.RowKit
open Pm

theorem join_take_le {s : ByteArray} {xs : List ByteArray} (h : parentB s = joinB xs) : (Lib.join (datj xs) [47]).length ≤ s.size := by
  have h1 := piece_size s 0 (lastI s)
  have h2 : (parentB s).size ≤ s.size := h1
  rw [h] at h2
  unfold joinB joinL at h2
  rw [mkB_size] at h2
  simp only [List.length_cons] at h2
  omega

set_option maxHeartbeats 4000000 in
set_option maxRecDepth 100000 in
theorem pathPieces_any (a : ByteArray) (w : World) (ha : a.size ≤ maxLen) (hsh : w.ShapedOpen Tryd.prog) :
    Calls Tryd.prog 8 #[.string a] w fun e w' => e = .returned (.bool true) ∧ Below w.heap.size w w' := by
  unfold maxLen at ha
  have HM := Lib.hid (ML.of hsh)
  clear hsh
  rcases Nat.lt_or_ge 400 a.size with h1 | h1
  · go_enter Tryd.func8, Tryd.ntmps8
    go_wp2_with (first
      | (go_at_call 10; refine (long_any _ _ (by omega)).mono ?_; rintro e w' ⟨rfl, rfl⟩)
      | (go_at_call 11; refine (awake_any _).mono ?_; rintro e w' ⟨rfl, hbl⟩))
    go_ret
    exact ⟨rfl, hbl⟩
  have c1 := fun W => parent_any a W (by omega)
  have c2 := fun W => name_any a W (by omega)
  have c3 := fun W => ext_any a W (by omega)
  cases hv : pathOk a.data.toList with
  | false =>
    rw [hv] at c1 c2 c3
    simp only [Bool.false_eq_true, if_false] at c1 c2 c3
    have C1 := Lib.hid c1
    have C2 := Lib.hid c2
    have C3 := Lib.hid c3
    have HP := Lib.hid (rpath_no a w (by omega) HM.out hv)
    clear c1 c2 c3
    go_enter Tryd.func8, Tryd.ntmps8
    go_wp2_with (first
      | (go_at_call 10; refine (long_any _ _ (by omega)).mono ?_; rintro e w' ⟨rfl, rfl⟩)
      | (go_at_call 23; refine (C1.out _).mono ?_; rintro e w' ⟨rfl, rfl⟩)
      | (go_at_call 24; refine (C2.out _).mono ?_; rintro e w' ⟨rfl, rfl⟩)
      | (go_at_call 25; refine (C3.out _).mono ?_; rintro e w' ⟨rfl, rfl⟩)
      | (go_at_call 12; refine HP.out.mono ?_; rintro e w1 ⟨rfl, hb⟩)
      | (go_at_call 11; refine (awake_any _).mono ?_; rintro e w2 ⟨rfl, hbl⟩))
    go_ret
    exact ⟨rfl, hb.trans (hbl.mono hb.size)⟩
  | true =>
    rw [hv] at c1 c2 c3
    simp only [if_true] at c1 c2 c3
    obtain ⟨xs, n, hcs, hnm, hpar, hdir, hcp, hcomp, hcat, hne⟩ := pieces hv
    have hjl := join_take_le hpar
    have hlc := compsB_len a
    have hp := rpath_yes a w (by omega) HM.out hv
    rw [hcs, List.length_append, List.length_singleton] at hlc
    rw [hcs] at hp
    have hns : n.size ≤ 400 := by have := nameB_size a; rw [hnm] at this; omega
    rw [hnm] at c2 c3
    have C1 := Lib.hid c1
    have C2 := Lib.hid c2
    have C3 := Lib.hid c3
    have HP := Lib.hid hp
    have HPAR := Lib.hid hpar
    clear c1 c2 c3 hp hcs hnm hpar hdir hcp hcomp hcat hne
    obtain ⟨m, hm⟩ : ∃ m, m = xs.length := ⟨_, rfl⟩
    have HPm : Hid (Calls Tryd.prog 12 #[.string a] w fun e w' => ∃ A c, e = .returned (.tuple #[.slice A (m + 1) c, .bool true]) ∧ RT w' A c (xs ++ [n]) ∧ Below w.heap.size w w') := Lib.hid (HP.out.mono fun e w' ⟨A, c, he, hr, hb⟩ => ⟨A, c, by rw [he, List.length_append, List.length_singleton, hm], hr, hb⟩)
    have HMX := Lib.hid hm
    have hm3 : m + 1 ≤ 401 := by omega
    clear HP hm hlc
    go_enter Tryd.func8, Tryd.ntmps8
    go_wp2_with (first
      | (go_at_call 10; refine (long_any _ _ (by omega)).mono ?_; rintro e w' ⟨rfl, rfl⟩)
      | (go_at_call 23; refine (C1.out _).mono ?_; rintro e w' ⟨rfl, rfl⟩)
      | (go_at_call 24; refine (C2.out _).mono ?_; rintro e w' ⟨rfl, rfl⟩)
      | (go_at_call 25; refine (C3.out _).mono ?_; rintro e w' ⟨rfl, rfl⟩))
    refine HPm.out.mono ?_
    rintro e w1 ⟨A, c, rfl, hr, hb⟩
    obtain ⟨b, o, rfl, hbl, hc⟩ := hr.2.2 (by simp)
    have hcell : w1.cell? ⟨b, o + m, none⟩ = some (.string n) := hc m n (by rw [List.getElem?_append_right (by rw [HMX.out]; omega), HMX.out, Nat.sub_self]; rfl)
    have hcap1 : m + 1 ≤ c := by have := hr.1; rw [List.length_append, List.length_singleton, ← HMX.out] at this; exact this
    have hcap2 : c ≤ 9223372036854775807 := hr.2.1
    have hrx := hr.take xs.length
    rw [List.take_left] at hrx
    have hj := rjoin_any (some ⟨b, o, none⟩) c xs w1 hrx (by rw [← HMX.out]; omega) (by omega)
    rw [← HPAR.out, ← HMX.out] at hj
    have HJ := Lib.hid hj
    clear hc hr hrx hj
    generalize parentB a = dir at *
    go_wp2_with (first
      | (go_at_call 26; refine HJ.out.mono ?_; rintro e w2 ⟨rfl, hb2⟩)
      | (go_at_call 27; refine (rext_any _ _ (by omega)).mono ?_; rintro e w' ⟨rfl, rfl⟩)
      | (go_at_call 11; refine (awake_any _).mono ?_; rintro e w3 ⟨rfl, hb3⟩))
    go_ret
    have HB2 := hb.trans (hb2.mono hb.size)
    exact ⟨rfl, HB2.trans (hb3.mono HB2.size)⟩
end Go.Proofs.YtpiecifdjfleaaaDoor
