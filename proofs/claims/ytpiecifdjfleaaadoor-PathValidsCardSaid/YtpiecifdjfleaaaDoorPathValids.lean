/-
  PathValids returns true.
-/
import Derived.Test.YtpiecifdjfleaaaDoorPc2
import Derived.Test.YtpiecifdjfleaaaDoorPa
namespace Go.Proofs.YtpiecifdjfleaaaDoor
set_option linter.unusedSimpArgs false
set_option linter.unusedVariables false
open Go.RowKit
open Pm

set_option maxHeartbeats 2000000 in
set_option maxRecDepth 100000 in
theorem pathValids_any (a : ByteArray) (w : World) (ha : a.size ≤ maxLen) (hsh : w.ShapedOpen Tryd.prog) :
    Calls Tryd.prog 3 #[.string a] w fun e w' => e = .returned (.bool true) ∧ Below w.heap.size w w' := by
  unfold maxLen at ha
  have HM := Lib.hid (ML.of hsh)
  clear hsh
  rcases Nat.lt_or_ge 400 a.size with h1 | h1
  · go_enter Tryd.func3, Tryd.ntmps3
    go_wp2_with (first
      | (go_at_call 10; refine (long_any _ _ (by omega)).mono ?_; rintro e w' ⟨rfl, rfl⟩)
      | (go_at_call 11; refine (awake_any _).mono ?_; rintro e w' ⟨rfl, hbl⟩))
    go_ret
    exact ⟨rfl, hbl⟩
  · cases hv : pathOk a.data.toList with
    | false =>
      have HP := Lib.hid (rpath_no a w (by omega) HM.out hv)
      cases hc : comp a.data.toList <;>
      · go_enter Tryd.func3, Tryd.ntmps3
        go_wp2_with (first
          | (go_at_call 10; refine (long_any _ _ (by omega)).mono ?_; rintro e w' ⟨rfl, rfl⟩)
          | (go_at_call 12; refine HP.out.mono ?_; rintro e w1 ⟨rfl, hb⟩)
          | (go_at_call 13; refine (valid_any _ _ (by omega)).mono ?_; rintro e w' ⟨rfl, rfl⟩)
          | (go_at_call 14; refine (component_any _ _ (by omega)).mono ?_; rintro e w' ⟨rfl, rfl⟩)
          | (go_at_call 15; refine (rcomponent_any _ _ (by omega)).mono ?_; rintro e w' ⟨rfl, rfl⟩)
          | (go_at_call 11; refine (awake_any _).mono ?_; rintro e w2 ⟨rfl, hbl⟩))
        go_ret
        exact ⟨rfl, hb.trans (hbl.mono hb.size)⟩
    | true =>
      have HP := Lib.hid (rpath_yes a w (by omega) HM.out hv)
      cases hc : comp a.data.toList <;>
      · go_enter Tryd.func3, Tryd.ntmps3
        go_wp2_with (first
          | (go_at_call 10; refine (long_any _ _ (by omega)).mono ?_; rintro e w' ⟨rfl, rfl⟩)
          | (go_at_call 12; refine HP.out.mono ?_; rintro e w1 ⟨A, c, rfl, hr, hb⟩)
          | (go_at_call 13; refine (valid_any _ _ (by omega)).mono ?_; rintro e w' ⟨rfl, rfl⟩)
          | (go_at_call 14; refine (component_any _ _ (by omega)).mono ?_; rintro e w' ⟨rfl, rfl⟩)
          | (go_at_call 15; refine (rcomponent_any _ _ (by omega)).mono ?_; rintro e w' ⟨rfl, rfl⟩)
          | (go_at_call 11; refine (awake_any _).mono ?_; rintro e w2 ⟨rfl, hbl⟩))
        go_ret
        exact ⟨rfl, hb.trans (hbl.mono hb.size)⟩
end Go.Proofs.YtpiecifdjfleaaaDoor
