/-
  MergeLines returns true.
-/
import Derived.Test.YtfhkmmicdbblnaaDoorE1
import Derived.Test.YtfhkmmicdbblnaaDoorE1j
namespace Go.Proofs.YtfhkmmicdbblnaaDoor
set_option linter.unusedSimpArgs false
set_option linter.unusedVariables false
open Go.RowKit

set_option maxHeartbeats 2000000 in
set_option maxRecDepth 100000 in
theorem mergeLines_any (s : ByteArray) (w : World) (ha : s.size ≤ maxLen) (hsh : w.ShapedOpen Tryd.prog) :
    Calls Tryd.prog 4 #[.string s] w fun e w' => e = .returned (.bool true) ∧ Below w.heap.size w w' := by
  have HM := Lib.hid (ML.of hsh)
  clear hsh
  cases hq : longB [s] with
  | true =>
    have HLG := Lib.hid (fun A c W h => (long_any A c [s] W h).mono fun e w' (hh : e = Ending.returned (.bool (longB [s])) ∧ W = w') => (⟨hh.1.trans (ret_bool hq), hh.2⟩ : e = Ending.returned (.bool true) ∧ W = w'))
    clear hq ha
    go_enter Tryd.func4, Tryd.ntmps4
    go_wp2_with (first
      | (go_at_call 7; refine (HLG.out _ _ _ (RT.one1 rfl)).mono ?_; rintro e w' ⟨rfl, rfl⟩)
      | (go_at_call 8; refine (awake_any _).mono ?_; rintro e w' ⟨rfl, hbl⟩))
    go_ret
    exact ⟨rfl, go3 (below_alloc _ _) hbl⟩
  | false =>
    have HLG := Lib.hid (fun A c W h => (long_any A c [s] W h).mono fun e w' (hh : e = Ending.returned (.bool (longB [s])) ∧ W = w') => (⟨hh.1.trans (ret_bool hq), hh.2⟩ : e = Ending.returned (.bool false) ∧ W = w'))
    have hsz := long_one hq
    have HSZ := Lib.hid hsz
    have HL1 := Lib.hid (fun W => lines_any s W (by have := HSZ.out; omega))
    have HL2 := Lib.hid (fun W h => rLines_any s W (by have := HSZ.out; omega) h)
    have HLL := Lib.hid (lB_len s)
    have HEQ := Lib.hid (fun A B c d W h k => (eqT_any A B c d (lB s) (lB s) W h k).mono fun e w' hh => (⟨hh.1.trans (ret_bool (decide_eq_true rfl)), hh.2⟩ : e = Ending.returned (.bool true) ∧ ∃ n, w' = W.drewN n))
    have HJ := Lib.hid (fun A c W h => join0_any A c (lB s) W h (by have := HSZ.out; have := HLL.out; omega) (by rw [cat_lB]; have := HSZ.out; omega))
    rw [cat_lB] at HJ
    have hss := str_self s
    unfold RetO at HL1
    unfold RetT at HL2
    generalize lB s = L at *
    clear hq ha hsz
    go_enter Tryd.func4, Tryd.ntmps4
    go_wp2_with (first
      | (go_at_call 7; refine (HLG.out _ _ _ (RT.one1 rfl)).mono ?_; rintro e w' ⟨rfl, rfl⟩)
      | (go_at_call 12; refine (HL1.out _).mono ?_; rintro e w1 ⟨A1, c1, rfl, hot, hb⟩; have HR1 := Lib.hid hot.rt.2; have HB1 := Lib.hid (go3 (below_alloc _ _) hb); clear hot hb)
      | (go_at_call 14; refine (HL2.out _ (HM.out.below HB1.out)).mono ?_; rintro e w2 ⟨A2, c2, rfl, hrt, hb⟩; have HR2 := Lib.hid hrt; have HR12 := Lib.hid (HR1.out.below hb); have HB2 := Lib.hid (go3 HB1.out hb); clear hrt hb)
      | (go_at_call 13; refine (HEQ.out _ _ _ _ _ HR12.out HR2.out).mono ?_; rintro e w3 ⟨rfl, hq⟩; have HR13 := Lib.hid (HR12.out.below (drewN_below hq)); have HB3 := Lib.hid (go3 HB2.out (drewN_below hq)); clear hq)
      | (go_at_call 15; refine (HJ.out _ _ _ HR13.out).mono ?_; rintro e w4 ⟨rfl, hb⟩; have HB4 := Lib.hid (go3 HB3.out hb); clear hb)
      | (go_at_call 8; refine (awake_any _).mono ?_; rintro e w' ⟨rfl, hbl⟩))
    go_ret
    exact ⟨rfl, go3 HB4.out hbl⟩
end Go.Proofs.YtfhkmmicdbblnaaDoor

