/-
  The sanity check of the statements about paths returns true.
-/
import Derived.Test.YtpiecifdjfleaaaDoorPw2
namespace Go.Proofs.YtpiecifdjfleaaaDoor
set_option linter.unusedSimpArgs false
set_option linter.unusedVariables false
open Go.RowKit
open Pm

set_option maxHeartbeats 1000000 in
theorem awake_any (w : World) :
    Calls Tryd.prog 11 #[] w fun e w' => e = .returned (.bool true) ∧ Below w.heap.size w w' := by
  have c1 := compare_yes ⟨#[47, 47, 97, 47, 98]⟩ ⟨#[47, 47, 97, 43, 47, 98]⟩ w (by decide) (by decide) (by decide) (by decide)
  rw [show pcmp (⟨#[47, 47, 97, 47, 98]⟩ : ByteArray).data.toList (⟨#[47, 47, 97, 43, 47, 98]⟩ : ByteArray).data.toList = -1 by decide] at c1
  have v1 : ∀ W, Calls Tryd.prog 13 #[.string ⟨#[47, 47, 97, 47, 98, 46, 112, 115, 100]⟩] W fun e w' => e = .returned (.bool true) ∧ W = w' := fun W => by
    have := valid_any ⟨#[47, 47, 97, 47, 98, 46, 112, 115, 100]⟩ W (by decide)
    rwa [show pathOk (⟨#[47, 47, 97, 47, 98, 46, 112, 115, 100]⟩ : ByteArray).data.toList = true by decide] at this
  have v2 : ∀ W, Calls Tryd.prog 13 #[.string ⟨#[47, 47, 97]⟩] W fun e w' => e = .returned (.bool false) ∧ W = w' := fun W => by
    have := valid_any ⟨#[47, 47, 97]⟩ W (by decide)
    rwa [show pathOk (⟨#[47, 47, 97]⟩ : ByteArray).data.toList = false by decide] at this
  go_enter Tryd.func11, Tryd.ntmps11
  go_wp2_with fail
  refine c1.mono ?_
  rintro e w1 ⟨rfl, hb⟩
  go_wp2_with fail
  refine (v1 _).mono ?_
  rintro e w' ⟨rfl, rfl⟩
  go_wp2_with fail
  refine (v2 _).mono ?_
  rintro e w' ⟨rfl, rfl⟩
  go_wp2_with fail
  go_ret
  exact ⟨rfl, hb⟩
end Go.Proofs.YtpiecifdjfleaaaDoor
