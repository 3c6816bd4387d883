/-
  MergeDiffs returns true.
-/
import Derived.Test.YtfhkmmicdbblnaaDoorE7
namespace Go.Proofs.YtfhkmmicdbblnaaDoor
set_option linter.unusedSimpArgs false
set_option linter.unusedVariables false
open Go.RowKit

theorem longQ2 {ts : List ByteArray} {q : Bool} (hq : longB ts = q) : Hid (∀ A c W, RT W A c ts → Calls Tryd.prog 7 #[.slice A ts.length c] W fun e w' => e = .returned (.bool q) ∧ W = w') :=
  Lib.hid (fun A c W h => (long_any A c ts W h).mono fun e w' hh => ⟨hh.1.trans (ret_bool hq), hh.2⟩)
set_option maxHeartbeats 2000000 in
set_option maxRecDepth 100000 in
theorem mergeDiffs_any (a b : ByteArray) (w : World) (ha : a.size ≤ maxLen) (hb : b.size ≤ maxLen) (hsh : w.ShapedOpen Tryd.prog) :
    Calls Tryd.prog 3 #[.string a, .string b] w fun e w' => e = .returned (.bool true) ∧ Below w.heap.size w w' := by
  have HM := Lib.hid (ML.of hsh)
  clear hsh
  cases hq : longB [a, b] with
  | true =>
    have HLG := longQ2 hq
    clear hq ha hb
    go_enter Tryd.func3, Tryd.ntmps3
    go_wp2_with (first
      | (go_at_call 7; refine (HLG.out _ _ _ (RT.two rfl)).mono ?_; rintro e w' ⟨rfl, rfl⟩)
      | (go_at_call 8; refine (awake_any _).mono ?_; rintro e w' ⟨rfl, hbl⟩))
    go_ret
    exact ⟨rfl, go3 (below_alloc _ _) hbl⟩
  | false =>
    have HLG := longQ2 hq
    have sa := long_no hq a (by simp)
    have sb := long_no hq b (by simp)
    have HD1 := Lib.hid (fun W => diff_any a b W (by omega) (by omega))
    have HD2 := Lib.hid (fun W h => rdiff_any a b W (by omega) (by omega) h)
    have HS := Lib.hid (fun A B c d W h k => same_any A B c d (diffT a b) W h k)
    unfold RetH at HD1 HD2
    have b1 : ((dvE [a, b] : Int) == dvE [a, b]) = true := by simp
    clear hq ha hb sa sb
    generalize diffT a b = hs at *
    generalize dvE [a, b] = E at *
    go_enter Tryd.func3, Tryd.ntmps3
    go_wp2_with (first
      | (go_at_call 7; refine (HLG.out _ _ _ (RT.two rfl)).mono ?_; rintro e w' ⟨rfl, rfl⟩)
      | (go_at_call 9; refine (HD1.out _).mono ?_; rintro e w1 ⟨A1, c1, rfl, hrf, hb⟩; have HR1 := Lib.hid hrf; have HB1 := Lib.hid (go3 (below_alloc _ _) hb); clear hrf hb)
      | (go_at_call 10; refine (HD2.out _ (HM.out.below HB1.out)).mono ?_; rintro e w2 ⟨A2, c2, rfl, hrf, hb⟩; have HR2 := Lib.hid hrf; have HR12 := Lib.hid (HR1.out.below hb); have HB2 := Lib.hid (go3 HB1.out hb); clear hrf hb)
      | (go_at_call 11; refine (HS.out _ _ _ _ _ HR12.out HR2.out).mono ?_; rintro e w3 ⟨rfl, hq⟩; have HB3 := Lib.hid (go3 HB2.out (drewN_below hq)); clear hq)
      | (go_at_call 8; refine (awake_any _).mono ?_; rintro e w' ⟨rfl, hbl⟩))
    go_ret
    exact ⟨rfl, go3 HB3.out hbl⟩
end Go.Proofs.YtfhkmmicdbblnaaDoor

