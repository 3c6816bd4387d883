/-
  PathCompares returns true.
-/
import Derived.Test.YtpiecifdjfleaaaDoorPc2
import Derived.Test.YtpiecifdjfleaaaDoorPa
namespace Go.Proofs.YtpiecifdjfleaaaDoor
set_option linter.unusedSimpArgs false
set_option linter.unusedVariables false
open Go.RowKit
open Pm

theorem dat_comps (s : ByteArray) : dat (compsB s) = sp (s.data.toList.drop 2) := by
  unfold dat compsB spB
  rw [List.map_map]
  conv => rhs; rw [← List.map_id (sp _)]
  exact List.map_congr_left fun x _ => mkB_data x
theorem path_head {s : ByteArray} (h : pathOk s.data.toList = true) : s.data.toList = 47 :: 47 :: s.data.toList.drop 2 := by
  have hp : Lib.hasPrefix s.data.toList [47, 47] = true := by
    unfold pathOk dirOk at h
    simp only [Bool.and_eq_true] at h
    exact h.1.1
  unfold Lib.hasPrefix at hp
  obtain ⟨t, ht⟩ := List.isPrefixOf_iff_prefix.1 hp
  rw [← ht]
  rfl
/-- the order of the bytes of two paths is that of their components -/
theorem pcmp_comps {a b : ByteArray} (ha : pathOk a.data.toList = true) (hb : pathOk b.data.toList = true) : pcmp a.data.toList b.data.toList = ccmp (dat (compsB a)) (dat (compsB b)) := by
  rw [dat_comps, dat_comps, ← pcmp_eq]
  conv => lhs; rw [path_head ha, path_head hb]
  simp [pcmp]

set_option maxHeartbeats 4000000 in
set_option maxRecDepth 100000 in
theorem pathCompares_any (a b : ByteArray) (w : World) (ha : a.size ≤ maxLen) (hb : b.size ≤ maxLen) (hsh : w.ShapedOpen Tryd.prog) :
    Calls Tryd.prog 4 #[.string a, .string b] w fun e w' => e = .returned (.bool true) ∧ Below w.heap.size w w' := by
  unfold maxLen at ha hb
  have HM := Lib.hid (ML.of hsh)
  clear hsh
  rcases Nat.lt_or_ge 400 a.size with h1 | h1
  · go_enter Tryd.func4, Tryd.ntmps4
    go_wp2_with (first
      | (go_at_call 10; refine (long_any _ _ (by omega)).mono ?_; rintro e w' ⟨rfl, rfl⟩)
      | (go_at_call 11; refine (awake_any _).mono ?_; rintro e w' ⟨rfl, hbl⟩))
    go_ret
    exact ⟨rfl, hbl⟩
  rcases Nat.lt_or_ge 400 b.size with h2 | h2
  · go_enter Tryd.func4, Tryd.ntmps4
    go_wp2_with (first
      | (go_at_call 10; refine (long_any _ _ (by omega)).mono ?_; rintro e w' ⟨rfl, rfl⟩)
      | (go_at_call 11; refine (awake_any _).mono ?_; rintro e w' ⟨rfl, hbl⟩))
    go_ret
    exact ⟨rfl, hbl⟩
  cases va : pathOk a.data.toList with
  | false =>
    have HC := Lib.hid (compare_no a b w (by omega) (by omega) (.inl va))
    have HA := Lib.hid (rpath_no a w (by omega) HM.out va)
    cases vb : pathOk b.data.toList with
    | false =>
      go_enter Tryd.func4, Tryd.ntmps4
      go_wp2_with (go_at_call 10; refine (long_any _ _ (by omega)).mono ?_; rintro e w' ⟨rfl, rfl⟩)
      refine HC.out.mono ?_
      rintro e w' ⟨rfl, rfl⟩
      go_wp2_with fail
      refine HA.out.mono ?_
      rintro e w1 ⟨rfl, hb1⟩
      go_wp2_with fail
      refine (rpath_no b w1 (by omega) (HM.out.below hb1) vb).mono ?_
      rintro e w2 ⟨rfl, hb2⟩
      go_wp2_with (go_at_call 11; refine (awake_any _).mono ?_; rintro e w3 ⟨rfl, hbl⟩)
      go_ret
      exact ⟨rfl, (hb1.trans (hb2.mono hb1.size)).trans (hbl.mono (hb1.trans (hb2.mono hb1.size)).size)⟩
    | true =>
      go_enter Tryd.func4, Tryd.ntmps4
      go_wp2_with (go_at_call 10; refine (long_any _ _ (by omega)).mono ?_; rintro e w' ⟨rfl, rfl⟩)
      refine HC.out.mono ?_
      rintro e w' ⟨rfl, rfl⟩
      go_wp2_with fail
      refine HA.out.mono ?_
      rintro e w1 ⟨rfl, hb1⟩
      go_wp2_with fail
      refine (rpath_yes b w1 (by omega) (HM.out.below hb1) vb).mono ?_
      rintro e w2 ⟨A, c, rfl, hr, hb2⟩
      go_wp2_with (go_at_call 11; refine (awake_any _).mono ?_; rintro e w3 ⟨rfl, hbl⟩)
      go_ret
      exact ⟨rfl, (hb1.trans (hb2.mono hb1.size)).trans (hbl.mono (hb1.trans (hb2.mono hb1.size)).size)⟩
  | true =>
    have HA := Lib.hid (fun W k => rpath_yes a W (by omega) k va)
    cases vb : pathOk b.data.toList with
    | false =>
      have HC := Lib.hid (compare_no a b w (by omega) (by omega) (.inr vb))
      go_enter Tryd.func4, Tryd.ntmps4
      go_wp2_with (go_at_call 10; refine (long_any _ _ (by omega)).mono ?_; rintro e w' ⟨rfl, rfl⟩)
      refine HC.out.mono ?_
      rintro e w' ⟨rfl, rfl⟩
      go_wp2_with fail
      refine (HA.out _ HM.out).mono ?_
      rintro e w1 ⟨A, c, rfl, hr, hb1⟩
      go_wp2_with fail
      refine (rpath_no b w1 (by omega) (HM.out.below hb1) vb).mono ?_
      rintro e w2 ⟨rfl, hb2⟩
      go_wp2_with (go_at_call 11; refine (awake_any _).mono ?_; rintro e w3 ⟨rfl, hbl⟩)
      go_ret
      exact ⟨rfl, (hb1.trans (hb2.mono hb1.size)).trans (hbl.mono (hb1.trans (hb2.mono hb1.size)).size)⟩
    | true =>
      have HC := Lib.hid (compare_yes a b w (by omega) (by omega) va vb)
      have HE := Lib.hid (pcmp_comps va vb)
      go_enter Tryd.func4, Tryd.ntmps4
      go_wp2_with (go_at_call 10; refine (long_any _ _ (by omega)).mono ?_; rintro e w' ⟨rfl, rfl⟩)
      refine HC.out.mono ?_
      rintro e w0 ⟨rfl, hb0⟩
      rw [HE.out]
      go_wp2_with fail
      refine (HA.out _ (HM.out.below hb0)).mono ?_
      rintro e w1 ⟨A, c, rfl, hr1, hb1⟩
      have HB1 := Lib.hid (hb0.trans (hb1.mono hb0.size))
      have HR1 := Lib.hid hr1
      clear hr1
      go_wp2_with fail
      refine (rpath_yes b w1 (by omega) (HM.out.below HB1.out) vb).mono ?_
      rintro e w2 ⟨B, d, rfl, hr2, hb2⟩
      have HB2 := Lib.hid (HB1.out.trans (hb2.mono HB1.out.size))
      have HR := Lib.hid (rcompare_any A B c d (compsB a) (compsB b) w2 (HR1.out.below hb2) hr2)
      clear hb0 hb1 hb2 hr2
      go_wp2_with (first
        | (go_at_call 17; refine HR.out.mono ?_; rintro e w3 ⟨rfl, hb3⟩)
        | (go_at_call 11; refine (awake_any _).mono ?_; rintro e w4 ⟨rfl, hbl⟩))
      go_ret
      have HB3 := HB2.out.trans (hb3.mono HB2.out.size)
      exact ⟨rfl, HB3.trans (hbl.mono HB3.size)⟩
end Go.Proofs.YtpiecifdjfleaaaDoor
