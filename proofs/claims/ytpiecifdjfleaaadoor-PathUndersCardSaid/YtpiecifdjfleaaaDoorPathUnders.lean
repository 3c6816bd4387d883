/-
  PathUnders returns true.
-/
import Derived.Test.YtpiecifdjfleaaaDoorPc2
import Derived.Test.YtpiecifdjfleaaaDoorPa
namespace Go.Proofs.YtpiecifdjfleaaaDoor
set_option linter.unusedSimpArgs false
set_option linter.unusedVariables false
open Go.RowKit
open Pm

set_option maxHeartbeats 4000000 in
set_option maxRecDepth 100000 in
theorem pathUnders_any (a b : ByteArray) (w : World) (ha : a.size ≤ maxLen) (hb : b.size ≤ maxLen) (hsh : w.ShapedOpen Tryd.prog) :
    Calls Tryd.prog 7 #[.string a, .string b] w fun e w' => e = .returned (.bool true) ∧ Below w.heap.size w w' := by
  unfold maxLen at ha hb
  have HM := Lib.hid (ML.of hsh)
  clear hsh
  rcases Nat.lt_or_ge 400 a.size with h1 | h1
  · go_enter Tryd.func7, Tryd.ntmps7
    go_wp2_with (first
      | (go_at_call 10; refine (long_any _ _ (by omega)).mono ?_; rintro e w' ⟨rfl, rfl⟩)
      | (go_at_call 11; refine (awake_any _).mono ?_; rintro e w' ⟨rfl, hbl⟩))
    go_ret
    exact ⟨rfl, hbl⟩
  rcases Nat.lt_or_ge 400 b.size with h2 | h2
  · go_enter Tryd.func7, Tryd.ntmps7
    go_wp2_with (first
      | (go_at_call 10; refine (long_any _ _ (by omega)).mono ?_; rintro e w' ⟨rfl, rfl⟩)
      | (go_at_call 11; refine (awake_any _).mono ?_; rintro e w' ⟨rfl, hbl⟩))
    go_ret
    exact ⟨rfl, hbl⟩
  cases va : dirOk a.data.toList with
  | false =>
    have HC := Lib.hid (under_no a b w (by omega) (by omega) HM.out (.inl va))
    cases vb : pathOk b.data.toList with
    | false =>
      go_enter Tryd.func7, Tryd.ntmps7
      go_wp2_with (go_at_call 10; refine (long_any _ _ (by omega)).mono ?_; rintro e w' ⟨rfl, rfl⟩)
      refine HC.out.mono ?_
      rintro e w1 ⟨rfl, hb1⟩
      go_wp2_with fail
      refine (parts_no a w1 (by omega) (HM.out.below hb1) va).mono ?_
      rintro e w2 ⟨rfl, hb2⟩
      have HB2 := Lib.hid (hb1.trans (hb2.mono hb1.size))
      clear hb1 hb2
      go_wp2_with fail
      refine (rpath_no b w2 (by omega) (HM.out.below HB2.out) vb).mono ?_
      rintro e w3 ⟨rfl, hb3⟩
      go_wp2_with (go_at_call 11; refine (awake_any _).mono ?_; rintro e w4 ⟨rfl, hbl⟩)
      go_ret
      have HB3 := HB2.out.trans (hb3.mono HB2.out.size)
      exact ⟨rfl, HB3.trans (hbl.mono HB3.size)⟩
    | true =>
      go_enter Tryd.func7, Tryd.ntmps7
      go_wp2_with (go_at_call 10; refine (long_any _ _ (by omega)).mono ?_; rintro e w' ⟨rfl, rfl⟩)
      refine HC.out.mono ?_
      rintro e w1 ⟨rfl, hb1⟩
      go_wp2_with fail
      refine (parts_no a w1 (by omega) (HM.out.below hb1) va).mono ?_
      rintro e w2 ⟨rfl, hb2⟩
      have HB2 := Lib.hid (hb1.trans (hb2.mono hb1.size))
      clear hb1 hb2
      go_wp2_with fail
      refine (rpath_yes b w2 (by omega) (HM.out.below HB2.out) vb).mono ?_
      rintro e w3 ⟨B, d, rfl, hr, hb3⟩
      go_wp2_with (go_at_call 11; refine (awake_any _).mono ?_; rintro e w4 ⟨rfl, hbl⟩)
      go_ret
      have HB3 := HB2.out.trans (hb3.mono HB2.out.size)
      exact ⟨rfl, HB3.trans (hbl.mono HB3.size)⟩
  | true =>
    cases vb : pathOk b.data.toList with
    | false =>
      have HC := Lib.hid (under_no a b w (by omega) (by omega) HM.out (.inr vb))
      go_enter Tryd.func7, Tryd.ntmps7
      go_wp2_with (go_at_call 10; refine (long_any _ _ (by omega)).mono ?_; rintro e w' ⟨rfl, rfl⟩)
      refine HC.out.mono ?_
      rintro e w1 ⟨rfl, hb1⟩
      go_wp2_with fail
      refine (parts_yes a w1 (by omega) (HM.out.below hb1) va).mono ?_
      rintro e w2 ⟨A, c, rfl, hr, hb2⟩
      have HB2 := Lib.hid (hb1.trans (hb2.mono hb1.size))
      clear hb1 hb2
      go_wp2_with fail
      refine (rpath_no b w2 (by omega) (HM.out.below HB2.out) vb).mono ?_
      rintro e w3 ⟨rfl, hb3⟩
      go_wp2_with (go_at_call 11; refine (awake_any _).mono ?_; rintro e w4 ⟨rfl, hbl⟩)
      go_ret
      have HB3 := HB2.out.trans (hb3.mono HB2.out.size)
      exact ⟨rfl, HB3.trans (hbl.mono HB3.size)⟩
    | true =>
      have HC := Lib.hid (under_yes a b w (by omega) (by omega) HM.out va vb)
      go_enter Tryd.func7, Tryd.ntmps7
      go_wp2_with (go_at_call 10; refine (long_any _ _ (by omega)).mono ?_; rintro e w' ⟨rfl, rfl⟩)
      refine HC.out.mono ?_
      rintro e w1 ⟨rfl, hb1⟩
      go_wp2_with fail
      refine (parts_yes a w1 (by omega) (HM.out.below hb1) va).mono ?_
      rintro e w2 ⟨A, c, rfl, hr1, hb2⟩
      have HB2 := Lib.hid (hb1.trans (hb2.mono hb1.size))
      have HR1 := Lib.hid hr1
      clear hb1 hb2 hr1
      go_wp2_with fail
      refine (rpath_yes b w2 (by omega) (HM.out.below HB2.out) vb).mono ?_
      rintro e w3 ⟨B, d, rfl, hr2, hb3⟩
      have HB3 := Lib.hid (HB2.out.trans (hb3.mono HB2.out.size))
      have HR := Lib.hid (runder_any A B c d (compsB a) (compsB b) w3 (HR1.out.below hb3) hr2)
      clear hb3 hr2
      cases hu : underB (compsB a) (compsB b) <;>
      · go_wp2_with (first
          | (go_at_call 22; refine HR.out.mono ?_; rintro e w4 ⟨rfl, hb4⟩)
          | (go_at_call 11; refine (awake_any _).mono ?_; rintro e w5 ⟨rfl, hbl⟩))
        go_ret
        have HB4 := HB3.out.trans (hb4.mono HB3.out.size)
        exact ⟨rfl, HB4.trans (hbl.mono HB4.size)⟩
end Go.Proofs.YtpiecifdjfleaaaDoor
