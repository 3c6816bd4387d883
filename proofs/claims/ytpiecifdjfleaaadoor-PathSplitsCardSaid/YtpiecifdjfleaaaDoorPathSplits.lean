/-
  PathSplits returns true.
-/
import Derived.Test.YtpiecifdjfleaaaDoorPc2
import Derived.Test.YtpiecifdjfleaaaDoorPa
namespace Go.Proofs.YtpiecifdjfleaaaDoor
set_option linter.unusedSimpArgs false
set_option linter.unusedVariables false
open Go.RowKit
open Pm

set_option maxHeartbeats 2000000 in
set_option maxRecDepth 100000 in
theorem pathSplits_any (a : ByteArray) (w : World) (ha : a.size ≤ maxLen) (hsh : w.ShapedOpen Tryd.prog) :
    Calls Tryd.prog 5 #[.string a] w fun e w' => e = .returned (.bool true) ∧ Below w.heap.size w w' := by
  unfold maxLen at ha
  have HM := Lib.hid (ML.of hsh)
  clear hsh
  rcases Nat.lt_or_ge 400 a.size with h1 | h1
  · go_enter Tryd.func5, Tryd.ntmps5
    go_wp2_with (first
      | (go_at_call 10; refine (long_any _ _ (by omega)).mono ?_; rintro e w' ⟨rfl, rfl⟩)
      | (go_at_call 11; refine (awake_any _).mono ?_; rintro e w' ⟨rfl, hbl⟩))
    go_ret
    exact ⟨rfl, hbl⟩
  cases hv : pathOk a.data.toList with
  | false =>
    have HP := Lib.hid (psplit_no a w (by omega) HM.out hv)
    go_enter Tryd.func5, Tryd.ntmps5
    go_wp2_with (go_at_call 10; refine (long_any _ _ (by omega)).mono ?_; rintro e w' ⟨rfl, rfl⟩)
    refine HP.out.mono ?_
    rintro e w1 ⟨rfl, hb1⟩
    go_wp2_with fail
    refine (rpath_no a w1 (by omega) (HM.out.below hb1) hv).mono ?_
    rintro e w2 ⟨rfl, hb2⟩
    go_wp2_with (go_at_call 11; refine (awake_any _).mono ?_; rintro e w3 ⟨rfl, hbl⟩)
    go_ret
    exact ⟨rfl, (hb1.trans (hb2.mono hb1.size)).trans (hbl.mono (hb1.trans (hb2.mono hb1.size)).size)⟩
  | true =>
    have HP := Lib.hid (psplit_yes a w (by omega) HM.out hv)
    go_enter Tryd.func5, Tryd.ntmps5
    go_wp2_with (go_at_call 10; refine (long_any _ _ (by omega)).mono ?_; rintro e w' ⟨rfl, rfl⟩)
    refine HP.out.mono ?_
    rintro e w1 ⟨A, c, rfl, hr1, hb1⟩
    have HR1 := Lib.hid hr1
    clear hr1
    go_wp2_with fail
    refine (rpath_yes a w1 (by omega) (HM.out.below hb1) hv).mono ?_
    rintro e w2 ⟨B, d, rfl, hr2, hb2⟩
    have HB2 := Lib.hid (hb1.trans (hb2.mono hb1.size))
    have hs := same_any A B c d (compsB a) (compsB a) w2 (HR1.out.below hb2) hr2
    rw [show decide (compsB a = compsB a) = true from by simp] at hs
    have HR := Lib.hid hs
    clear hs hb1 hb2 hr2
    go_wp2_with (first
      | (go_at_call 19; refine HR.out.mono ?_; rintro e w3 ⟨rfl, hb3⟩)
      | (go_at_call 11; refine (awake_any _).mono ?_; rintro e w4 ⟨rfl, hbl⟩))
    go_ret
    have HB3 := HB2.out.trans (hb3.mono HB2.out.size)
    exact ⟨rfl, HB3.trans (hbl.mono HB3.size)⟩
end Go.Proofs.YtpiecifdjfleaaaDoor
