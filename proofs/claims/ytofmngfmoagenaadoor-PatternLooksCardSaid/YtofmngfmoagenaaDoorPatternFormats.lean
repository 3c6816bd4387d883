/-
  PatternFormats returns true.
-/
import Derived.Test.YtofmngfmoagenaaDoorQ8
namespace Go.Proofs.YtofmngfmoagenaaDoor
set_option linter.unusedSimpArgs false
set_option linter.unusedVariables false
open Go.RowKit
open Pm

theorem same_self (xs : List ByteArray) (r : Bool) : sameB xs xs r r = true := by unfold sameB; simp
theorem text_selfB (x : ByteArray) : (x.toList == x.toList) = true := by simp

set_option maxHeartbeats 2000000 in
theorem patternFormats_any (A : Option Addr) (c : Nat) (xs : List ByteArray) (r : Bool) (W : World) (h : RT W A c xs) (hz : ∀ x ∈ xs, x.size ≤ maxLen) (hg : ∀ x ∈ xs, x.size ≤ reachBytes) (hsh : W.ShapedOpen Tryd.prog) :
    Calls Tryd.prog 6 #[.agg #[.slice A xs.length c, .bool r]] W fun e w' => e = .returned (.bool true) ∧ Below W.heap.size W w' := by
  have HM := Lib.hid (ML.of hsh)
  unfold maxLen at hz
  have h1 := h.1
  have h2 := h.2.1
  have HX := Lib.hid h
  have HSM := Lib.hid (fun w (h : RT w A c xs) => small_any A c xs r w h hg)
  have HZ := Lib.hid hz
  clear hsh h hz hg
  cases hsm : smallB xs with
  | false =>
    rw [hsm] at HSM
    go_enter Tryd.func6, Tryd.ntmps6
    go_wp2_with (first
      | (go_at_call 22; refine (HSM.out _ (HX.out.below (below_alloc _ _))).mono ?_; rintro e w1 ⟨rfl, hb1⟩; have HB1 := Lib.hid ((below_alloc W _).trans (hb1.mono (below_alloc W _).size)); clear hb1)
      | (go_at_call 18; refine (pawake_any _ (HM.out.below HB1.out)).mono ?_; rintro e w2 ⟨rfl, hb2⟩))
    go_ret
    exact ⟨rfl, HB1.out.trans (hb2.mono HB1.out.size)⟩
  | true =>
    rw [hsm] at HSM
    obtain ⟨hl20, _, hsz⟩ := small_yes hsm
    have HCP := Lib.hid (fun w (h : RT w A c xs) => copied_any A c xs r w h (by omega))
    have HCK := Lib.hid (fun w (h : RT w A c xs) => check_any A c xs r w h HZ.out)
    have HRC := Lib.hid (fun w (h : RT w A c xs) => rcheck_any A c xs r w h HZ.out)
    have HFM := Lib.hid (fun w (h : RT w A c xs) => format_any A c xs r w h (fun x hx => by have := hsz x hx; omega))
    have HTX := Lib.hid (fun w (h : RT w A c xs) => rtext_any A c xs r w h hl20 (fun x hx => by have := hsz x hx; omega))
    have HSS := Lib.hid (fun B d w (h : RT w A c xs) (k : RT w B d xs) => psame_any A B c d xs xs r r w h k)
    rw [same_self] at HSS
    have HF : Hid (formatB xs r = if checkP xs r = 0 then textB xs r else ⟨#[]⟩) := Lib.hid rfl
    have hnn : (checkP xs r != checkP xs r) = false := by simp
    clear hsz hsm
    by_cases hn : checkP xs r = 0
    · rw [if_pos hn] at HF
      rw [HF.out] at HFM
      have hnB : (checkP xs r != 0) = false := by rw [hn]; rfl
      clear hn
      have heq := text_selfB (textB xs r)
      generalize checkP xs r = n at *
      generalize textB xs r = t at *
      go_enter Tryd.func6, Tryd.ntmps6
      go_wp2_with (first
        | (go_at_call 22; refine (HSM.out _ (HX.out.below (below_alloc _ _))).mono ?_; rintro e w1 ⟨rfl, hb1⟩; have P1 := Lib.hid ((PX.new W (.slice A xs.length c) (.bool r) _).below hb1); obtain ⟨p1, p2, p3, p4, p5⟩ := P1.out; have HB1 := Lib.hid ((below_alloc W _).trans (hb1.mono (below_alloc W _).size)); clear hb1)
        | (go_at_call 27; refine (HCP.out _ (HX.out.below HB1.out)).mono ?_; rintro e w2 ⟨B, d, rfl, hr2, hb2⟩; have HR2 := Lib.hid hr2; have P2 := Lib.hid (P1.out.below hb2); have P2a := Lib.hid (P2.out.below (below_alloc w2 (.cells #[.slice B xs.length d, .bool r] 25))); obtain ⟨q1, q2, q3, q4, q5⟩ := P2a.out; have HB2 := Lib.hid (HB1.out.trans (hb2.mono HB1.out.size)); have HB2a := Lib.hid (HB2.out.alloc HB2.out.size (.cells #[.slice B xs.length d, .bool r] 25)); clear hr2 hb2)
        | (go_at_call 26; refine (HFM.out _ (HX.out.below HB2a.out)).mono ?_; rintro e w3 ⟨rfl, hb3⟩; have P3 := Lib.hid (P2a.out.below hb3); obtain ⟨s1, s2, s3, s4, s5⟩ := P3.out; have Q3 := Lib.hid ((PX.new w2 (.slice B xs.length d) (.bool r) _).below hb3); obtain ⟨t1, t2, t3, t4, t5⟩ := Q3.out; have HR3 := Lib.hid ((HR2.out.below (below_alloc w2 _)).below hb3); have HB3 := Lib.hid (HB2a.out.trans (hb3.mono HB2a.out.size)); clear hb3)
        | (go_at_call 28; refine (HRC.out _ (HX.out.below HB3.out)).mono ?_; rintro e w4 ⟨rfl, hb4⟩; have P4 := Lib.hid (P3.out.below hb4); obtain ⟨u1, u2, u3, u4, u5⟩ := P4.out; have Q4 := Lib.hid (Q3.out.below hb4); obtain ⟨v1, v2, v3, v4, v5⟩ := Q4.out; have HR4 := Lib.hid (HR3.out.below hb4); have HB4 := Lib.hid (HB3.out.trans (hb4.mono HB3.out.size)); clear hb4)
        | (go_at_call 21; refine (HSS.out B d _ (HX.out.below HB4.out) HR4.out).mono ?_; rintro e w5 ⟨rfl, hb5⟩; have P5 := Lib.hid (P4.out.below hb5); obtain ⟨x1, x2, x3, x4, x5⟩ := P5.out; have HB5 := Lib.hid (HB4.out.trans (hb5.mono HB4.out.size)); clear hb5)
        | (go_at_call 29; refine (HCK.out _ (HX.out.below HB5.out)).mono ?_; rintro e w6 ⟨rfl, hb6⟩; have P6 := Lib.hid (P5.out.below hb6); obtain ⟨y1, y2, y3, y4, y5⟩ := P6.out; have HB6 := Lib.hid (HB5.out.trans (hb6.mono HB5.out.size)); clear hb6)
        | (go_at_call 30; refine (HTX.out _ (HX.out.below HB6.out)).mono ?_; rintro e w7 ⟨rfl, hb7⟩; have HB7 := Lib.hid (HB6.out.trans (hb7.mono HB6.out.size)); clear hb7)
        | (go_at_call 18; refine (pawake_any _ (HM.out.below HB7.out)).mono ?_; rintro e w8 ⟨rfl, hb8⟩; have HB8 := Lib.hid (HB7.out.trans (hb8.mono HB7.out.size)); clear hb8))
      go_ret
      exact ⟨rfl, HB8.out⟩
    · rw [if_neg hn] at HF
      rw [HF.out] at HFM
      have hnB : (checkP xs r != 0) = true := by rw [bne_iff_ne]; exact hn
      clear hn
      generalize checkP xs r = n at *
      go_enter Tryd.func6, Tryd.ntmps6
      go_wp2_with (first
        | (go_at_call 22; refine (HSM.out _ (HX.out.below (below_alloc _ _))).mono ?_; rintro e w1 ⟨rfl, hb1⟩; have P1 := Lib.hid ((PX.new W (.slice A xs.length c) (.bool r) _).below hb1); obtain ⟨p1, p2, p3, p4, p5⟩ := P1.out; have HB1 := Lib.hid ((below_alloc W _).trans (hb1.mono (below_alloc W _).size)); clear hb1)
        | (go_at_call 27; refine (HCP.out _ (HX.out.below HB1.out)).mono ?_; rintro e w2 ⟨B, d, rfl, hr2, hb2⟩; have HR2 := Lib.hid hr2; have P2 := Lib.hid (P1.out.below hb2); have P2a := Lib.hid (P2.out.below (below_alloc w2 (.cells #[.slice B xs.length d, .bool r] 25))); obtain ⟨q1, q2, q3, q4, q5⟩ := P2a.out; have HB2 := Lib.hid (HB1.out.trans (hb2.mono HB1.out.size)); have HB2a := Lib.hid (HB2.out.alloc HB2.out.size (.cells #[.slice B xs.length d, .bool r] 25)); clear hr2 hb2)
        | (go_at_call 26; refine (HFM.out _ (HX.out.below HB2a.out)).mono ?_; rintro e w3 ⟨rfl, hb3⟩; have P3 := Lib.hid (P2a.out.below hb3); obtain ⟨s1, s2, s3, s4, s5⟩ := P3.out; have Q3 := Lib.hid ((PX.new w2 (.slice B xs.length d) (.bool r) _).below hb3); obtain ⟨t1, t2, t3, t4, t5⟩ := Q3.out; have HR3 := Lib.hid ((HR2.out.below (below_alloc w2 _)).below hb3); have HB3 := Lib.hid (HB2a.out.trans (hb3.mono HB2a.out.size)); clear hb3)
        | (go_at_call 28; refine (HRC.out _ (HX.out.below HB3.out)).mono ?_; rintro e w4 ⟨rfl, hb4⟩; have P4 := Lib.hid (P3.out.below hb4); obtain ⟨u1, u2, u3, u4, u5⟩ := P4.out; have Q4 := Lib.hid (Q3.out.below hb4); obtain ⟨v1, v2, v3, v4, v5⟩ := Q4.out; have HR4 := Lib.hid (HR3.out.below hb4); have HB4 := Lib.hid (HB3.out.trans (hb4.mono HB3.out.size)); clear hb4)
        | (go_at_call 21; refine (HSS.out B d _ (HX.out.below HB4.out) HR4.out).mono ?_; rintro e w5 ⟨rfl, hb5⟩; have P5 := Lib.hid (P4.out.below hb5); obtain ⟨x1, x2, x3, x4, x5⟩ := P5.out; have HB5 := Lib.hid (HB4.out.trans (hb5.mono HB4.out.size)); clear hb5)
        | (go_at_call 29; refine (HCK.out _ (HX.out.below HB5.out)).mono ?_; rintro e w6 ⟨rfl, hb6⟩; have P6 := Lib.hid (P5.out.below hb6); obtain ⟨y1, y2, y3, y4, y5⟩ := P6.out; have HB6 := Lib.hid (HB5.out.trans (hb6.mono HB5.out.size)); clear hb6)
        | (go_at_call 18; refine (pawake_any _ (HM.out.below HB6.out)).mono ?_; rintro e w8 ⟨rfl, hb8⟩; have HB8 := Lib.hid (HB6.out.trans (hb8.mono HB6.out.size)); clear hb8))
      go_ret
      exact ⟨rfl, HB8.out⟩
end Go.Proofs.YtofmngfmoagenaaDoor

