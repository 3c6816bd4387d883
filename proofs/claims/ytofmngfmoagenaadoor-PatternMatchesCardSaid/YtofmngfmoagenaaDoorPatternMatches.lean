/-
  PatternMatches returns true.
-/
import Derived.Test.YtofmngfmoagenaaDoorQ7
namespace Go.Proofs.YtofmngfmoagenaaDoor
set_option linter.unusedSimpArgs false
set_option linter.unusedVariables false
open Go.RowKit
open Pm

def mX (xs : List ByteArray) (r : Bool) (s : ByteArray) : List ByteArray := if matchOk mpOk xs r s = true then capsB stB mpCap xs r s else []
def RetM (w : World) (ys : List ByteArray) (b : Bool) (e : Ending) (w' : World) : Prop := ∃ A c, e = .returned (.tuple #[.slice A ys.length c, .bool b]) ∧ RT w' A c ys ∧ Below w.heap.size w w'
theorem m_one {xs : List ByteArray} {r : Bool} {s : ByteArray} {w w' : World} {e : Ending} (h : RetC w (capsB stB mpCap xs r s) (matchOk mpOk xs r s) e w') : RetM w (mX xs r s) (matchOk mpOk xs r s) e w' := by
  unfold mX
  cases hm : matchOk mpOk xs r s with
  | true =>
    obtain ⟨A, c, he, hr, hb⟩ := h.1 hm
    exact ⟨A, c, he, hr, hb⟩
  | false =>
    obtain ⟨he, hb⟩ := h.2 hm
    exact ⟨none, 0, he, RT.nil _ _ _ (by omega), hb⟩
theorem m_two {xs : List ByteArray} {r : Bool} {s : ByteArray} {w w' : World} {e : Ending} (h : RetC w (capsB starOk cpCap xs r s) (matchOk cpOk xs r s) e w') : RetM w (mX xs r s) (matchOk mpOk xs r s) e w' := by
  have ha := match_agree xs r s
  unfold mX
  cases hm : matchOk mpOk xs r s with
  | true =>
    have e2 := ha.2 hm
    rw [ha.1] at hm
    obtain ⟨A, c, he, hr, hb⟩ := h.1 hm
    rw [if_pos rfl, e2]
    exact ⟨A, c, he, hr, hb⟩
  | false =>
    rw [ha.1] at hm
    obtain ⟨he, hb⟩ := h.2 hm
    exact ⟨none, 0, he, RT.nil _ _ _ (by omega), hb⟩
theorem small_no {xs : List ByteArray} {r : Bool} {A : Option Addr} {c : Nat} : True := trivial

set_option maxHeartbeats 2000000 in
theorem patternMatches_any (A : Option Addr) (c : Nat) (xs : List ByteArray) (r : Bool) (s : ByteArray) (W : World) (h : RT W A c xs) (hz : ∀ x ∈ xs, x.size ≤ maxLen) (hg : ∀ x ∈ xs, x.size ≤ reachBytes) (hs : s.size ≤ maxLen) (hsh : W.ShapedOpen Tryd.prog) :
    Calls Tryd.prog 4 #[.agg #[.slice A xs.length c, .bool r], .string s] W fun e w' => e = .returned (.bool true) ∧ Below W.heap.size W w' := by
  have HM := Lib.hid (ML.of hsh)
  unfold maxLen at hs hz
  have h1 := h.1
  have h2 := h.2.1
  have HX := Lib.hid h
  have HSM := Lib.hid (fun w (h : RT w A c xs) => small_any A c xs r w h hg)
  have HZ := Lib.hid hz
  clear hsh h hz hg
  cases hsm : smallB xs with
  | false =>
    rw [hsm] at HSM
    go_enter Tryd.func4, Tryd.ntmps4
    go_wp2_with (first
      | (go_at_call 22; refine (HSM.out _ (HX.out.below (below_alloc _ _))).mono ?_; rintro e w1 ⟨rfl, hb1⟩; have HB1 := Lib.hid ((below_alloc W _).trans (hb1.mono (below_alloc W _).size)); clear hb1)
      | (go_at_call 18; refine (pawake_any _ (HM.out.below HB1.out)).mono ?_; rintro e w2 ⟨rfl, hb2⟩))
    go_ret
    exact ⟨rfl, HB1.out.trans (hb2.mono HB1.out.size)⟩
  | true =>
    rw [hsm] at HSM
    by_cases hl : 400 < s.size
    · go_enter Tryd.func4, Tryd.ntmps4
      go_wp2_with (first
        | (go_at_call 22; refine (HSM.out _ (HX.out.below (below_alloc _ _))).mono ?_; rintro e w1 ⟨rfl, hb1⟩; have HB1 := Lib.hid ((below_alloc W _).trans (hb1.mono (below_alloc W _).size)); clear hb1)
        | (go_at_call 18; refine (pawake_any _ (HM.out.below HB1.out)).mono ?_; rintro e w2 ⟨rfl, hb2⟩))
      go_ret
      exact ⟨rfl, HB1.out.trans (hb2.mono HB1.out.size)⟩
    · have HP := Lib.hid (fun w hx hm => (match_any A c xs r s w hx HZ.out (by omega) hm).mono fun _ _ h => m_one h)
      have HQ := Lib.hid (fun w hx hm => (rmatch_any A c xs r s w hx HZ.out (by omega) hm).mono fun _ _ h => m_two h)
      generalize mX xs r s = ys at *
      generalize matchOk mpOk xs r s = b at *
      have HEQ := Lib.hid (fun B D d e w h k => eq_any B D d e ys ys w h k)
      rw [show decide (ys = ys) = true from by simp] at HEQ
      cases b <;>
      · go_enter Tryd.func4, Tryd.ntmps4
        go_wp2_with (first
          | (go_at_call 22; refine (HSM.out _ (HX.out.below (below_alloc _ _))).mono ?_; rintro e w1 ⟨rfl, hb1⟩; have P1 := Lib.hid ((PX.new W (.slice A xs.length c) (.bool r) _).below hb1); obtain ⟨p1, p2, p3, p4, p5⟩ := P1.out; have HB1 := Lib.hid ((below_alloc W _).trans (hb1.mono (below_alloc W _).size)); clear hb1)
          | (go_at_call 23; refine (HP.out _ (HX.out.below HB1.out) (HM.out.below HB1.out)).mono ?_; rintro e w2 ⟨B, d, rfl, hr2, hb2⟩; have P2 := Lib.hid (P1.out.below hb2); obtain ⟨q1, q2, q3, q4, q5⟩ := P2.out; have HR2 := Lib.hid hr2; have HB2 := Lib.hid (HB1.out.trans (hb2.mono HB1.out.size)); clear hr2 hb2)
          | (go_at_call 24; refine (HQ.out _ (HX.out.below HB2.out) (HM.out.below HB2.out)).mono ?_; rintro e w3 ⟨D, f, rfl, hr3, hb3⟩; have HR3 := Lib.hid hr3; have HR2' := Lib.hid (HR2.out.below hb3); have HB3 := Lib.hid (HB2.out.trans (hb3.mono HB2.out.size)); clear hr3 hb3)
          | (go_at_call 25; refine (HEQ.out B D d f _ HR2'.out HR3.out).mono ?_; rintro e w4 ⟨rfl, hb4⟩; have HB4 := Lib.hid (HB3.out.trans (hb4.mono HB3.out.size)); clear hb4)
          | (go_at_call 18; refine (pawake_any _ (HM.out.below HB4.out)).mono ?_; rintro e w5 ⟨rfl, hb5⟩))
        go_ret
        exact ⟨rfl, HB4.out.trans (hb5.mono HB4.out.size)⟩
end Go.Proofs.YtofmngfmoagenaaDoor

