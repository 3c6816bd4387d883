/-
  PatternParses returns true.
-/
import Derived.Test.YtofmngfmoagenaaDoorQ7
namespace Go.Proofs.YtofmngfmoagenaaDoor
set_option linter.unusedSimpArgs false
set_option linter.unusedVariables false
open Go.RowKit
open Pm

def pX (s : ByteArray) : List ByteArray := if parseN s = 0 then ppartsB s else []
def pR (s : ByteArray) : Bool := if parseN s = 0 then prestB s else false
theorem one_of {s : ByteArray} {w w' : World} {e : Ending} (h : RetPN w (ppartsB s) (prestB s) (parseN s) e w') : RetP w (pX s) (pR s) (parseN s) e w' := by
  by_cases h0 : parseN s = 0
  · have := h.1 h0
    unfold pX pR
    rw [if_pos h0, if_pos h0, h0]
    exact this
  · have := h.2 h0
    unfold pX pR
    rw [if_neg h0, if_neg h0]
    exact this

set_option maxHeartbeats 2000000 in
theorem patternParses_any (s : ByteArray) (W : World) (hs : s.size ≤ maxLen) (hsh : W.ShapedOpen Tryd.prog) :
    Calls Tryd.prog 3 #[.string s] W fun e w' => e = .returned (.bool true) ∧ Below W.heap.size W w' := by
  have HM := Lib.hid (ML.of hsh)
  clear hsh
  unfold maxLen at hs
  by_cases hl : 400 < s.size
  · go_enter Tryd.func3, Tryd.ntmps3
    go_wp2_with (go_at_call 18; refine (pawake_any _ HM.out).mono ?_; rintro e w' ⟨rfl, hbl⟩)
    go_ret
    exact ⟨rfl, hbl⟩
  · have HP := Lib.hid (fun w hm => (parse_any s w (by omega) hm).mono fun _ _ h => one_of h)
    have HQ := Lib.hid (fun w hm => (rparse_any s w (by omega) hm).mono fun _ _ h => one_of h)
    have HT := Lib.hid (show sameB (pX s) (pX s) (pR s) (pR s) = true from by unfold sameB; simp)
    generalize pX s = xs at *
    generalize pR s = r at *
    generalize parseN s = n at *
    go_enter Tryd.func3, Tryd.ntmps3
    go_wp2_with (first
      | (go_at_call 19; refine (HP.out _ HM.out).mono ?_; rintro e w1 ⟨A, c, rfl, hr1, hb1⟩; have HR1 := Lib.hid hr1; have HB1 := Lib.hid hb1; clear hr1 hb1)
      | (go_at_call 20; refine (HQ.out _ ((HM.out.below HB1.out).below (below_alloc _ _))).mono ?_; rintro e w2 ⟨B, d, rfl, hr2, hb2⟩; have HR2 := Lib.hid hr2; have P1 := Lib.hid ((PX.new w1 (.slice A xs.length c) (.bool r) _).below hb2); obtain ⟨p1, p2, p3, p4, p5⟩ := P1.out; have HB2 := Lib.hid ((below_alloc w1 _).trans (hb2.mono (below_alloc w1 _).size)); clear hr2 hb2; have P2 := Lib.hid (P1.out.below (below_alloc w2 (.cells #[.slice B xs.length d, .bool r] 25))); obtain ⟨q1, q2, q3, q4, q5⟩ := P2.out)
      | (go_at_call 21; refine (psame_any A B c d xs xs r r _ ((HR1.out.below HB2.out).below (below_alloc _ _)) (HR2.out.below (below_alloc _ _))).mono ?_; rintro e w3 ⟨rfl, hb3⟩; rw [HT.out]; have HB3 := Lib.hid ((HB1.out.trans (HB2.out.mono HB1.out.size)).trans (((below_alloc w2 _).trans (hb3.mono (below_alloc w2 _).size)).mono (Nat.le_trans HB1.out.size HB2.out.size))); clear hb3)
      | (go_at_call 18; refine (pawake_any _ (HM.out.below HB3.out)).mono ?_; rintro e w4 ⟨rfl, hb4⟩))
    go_ret
    exact ⟨rfl, HB3.out.trans (hb4.mono HB3.out.size)⟩
end Go.Proofs.YtofmngfmoagenaaDoor

