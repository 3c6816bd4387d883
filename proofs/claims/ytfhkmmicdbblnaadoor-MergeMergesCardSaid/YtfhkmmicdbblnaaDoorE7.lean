/-
  The walk of the reference's Diff.
-/
import Derived.Test.YtfhkmmicdbblnaaDoorE6
import Derived.Test.YtfhkmmicdbblnaaDoorE1
namespace Go.Proofs.YtfhkmmicdbblnaaDoor
set_option linter.unusedSimpArgs false
set_option linter.unusedVariables false
open Go.RowKit

set_option maxHeartbeats 2000000 in
set_option maxRecDepth 100000 in
theorem rdiff_any (a b : ByteArray) (w : World) (ha : a.size ≤ 100000) (hb : b.size ≤ 100000) (hm : ML w) :
    Calls Tryd.prog 10 #[.string a, .string b] w (RetH w (diffT a b) (dvE [a, b])) := by
  have HM := Lib.hid hm
  have HL1 := Lib.hid (fun W h => rLines_any a W ha h)
  have HL2 := Lib.hid (fun W h => rLines_any b W hb h)
  unfold RetT at HL1 HL2
  clear hm ha hb
  cases hf : fewB [a, b] with
  | false =>
    have HE : Hid (diffT a b = []) := Lib.hid (by unfold diffT; rw [hf]; rfl)
    have HD := Lib.hid (dv_bad hf)
    have hc : 400 < (lB a).length ∨ 400 < (lB b).length := by
      unfold fewB at hf
      simp only [List.all_cons, List.all_nil, Bool.and_true, Bool.and_eq_false_iff, decide_eq_false_iff_not] at hf
      omega
    clear hf
    generalize lB a = xs at *
    generalize lB b = ys at *
    by_cases h1 : 400 < xs.length
    · clear hc
      go_enter Tryd.func10, Tryd.ntmps10
      go_wp2_with (first
        | (go_at_call_of 14 (Value.string a); refine (HL1.out _ HM.out).mono ?_; rintro e w1 ⟨A1, c1, rfl, hrt, hb⟩; have HB1 := Lib.hid hb; have HM1 := Lib.hid (HM.out.below hb); clear hrt hb)
        | (go_at_call 14; refine (HL2.out _ HM1.out).mono ?_; rintro e w2 ⟨A2, c2, rfl, hrt, hb⟩; have HB2 := Lib.hid (go3 HB1.out hb); clear hrt hb))
      go_ret2
      exact RetH.of ⟨none, 0, rfl, RF.nil _ _ _ _ (by omega), HB2.out⟩ HE.out HD.out.2
    · have h2 : 400 < ys.length := by omega
      clear hc
      go_enter Tryd.func10, Tryd.ntmps10
      go_wp2_with (first
        | (go_at_call_of 14 (Value.string a); refine (HL1.out _ HM.out).mono ?_; rintro e w1 ⟨A1, c1, rfl, hrt, hb⟩; have HB1 := Lib.hid hb; have HM1 := Lib.hid (HM.out.below hb); clear hrt hb)
        | (go_at_call 14; refine (HL2.out _ HM1.out).mono ?_; rintro e w2 ⟨A2, c2, rfl, hrt, hb⟩; have HB2 := Lib.hid (go3 HB1.out hb); clear hrt hb))
      go_ret2
      exact RetH.of ⟨none, 0, rfl, RF.nil _ _ _ _ (by omega), HB2.out⟩ HE.out HD.out.2
  | true =>
    have HE : Hid (diffT a b = diffL (lB a) (lB b)) := Lib.hid (by unfold diffT; rw [hf]; rfl)
    have HD := Lib.hid (dv_good hf)
    obtain ⟨lx, ly⟩ := few2 hf
    clear hf
    generalize lB a = xs at *
    generalize lB b = ys at *
    have HPR := Lib.hid (fun A B c d W h k => pairs_any A B c d xs ys W h k (by omega) (by omega))
    have HSC := Lib.hid (fun A B P c d cp W h k p => script_any A B P c d cp xs ys (pairs xs ys 0 0) W h k p (rise_pairs xs ys) (by omega) (by omega) (by have := pairs_len_le xs ys; omega))
    unfold RetPr at HPR
    unfold RetHk at HSC
    have HDL : Hid (scr ys (pairs xs ys 0 0 ++ [(xs.length, ys.length)]) 0 0 = diffL xs ys) := Lib.hid rfl
    rw [HDL.out] at HSC
    generalize pairs xs ys 0 0 = ps at *
    clear HDL
    generalize diffL xs ys = hs at *
    have m1 : ¬ 400 < xs.length := by omega
    have m2 : ¬ 400 < ys.length := by omega
    go_enter Tryd.func10, Tryd.ntmps10
    go_wp2_with (first
      | (go_at_call_of 14 (Value.string a); refine (HL1.out _ HM.out).mono ?_; rintro e w1 ⟨A1, c1, rfl, hrt, hb⟩; have HR1 := Lib.hid hrt; have HB1 := Lib.hid hb; have HM1 := Lib.hid (HM.out.below hb); clear hrt hb)
      | (go_at_call 14; refine (HL2.out _ HM1.out).mono ?_; rintro e w2 ⟨A2, c2, rfl, hrt, hb⟩; have HR2 := Lib.hid hrt; have HR12 := Lib.hid (HR1.out.below hb); have HB2 := Lib.hid (go3 HB1.out hb); clear hrt hb)
      | (go_at_call 29; refine (HPR.out _ _ _ _ _ HR12.out HR2.out).mono ?_; rintro e w3 ⟨A3, c3, rfl, hrt, hb⟩; have HR3 := Lib.hid hrt; have HR13 := Lib.hid (HR12.out.below hb); have HR23 := Lib.hid (HR2.out.below hb); have HB3 := Lib.hid (go3 HB2.out hb); clear hrt hb)
      | (go_at_call 28; refine (HSC.out _ _ _ _ _ _ _ HR13.out HR23.out HR3.out).mono ?_; rintro e w4 ⟨A4, c4, rfl, hrt, hb⟩; have HR4 := Lib.hid hrt; have HB4 := Lib.hid (go3 HB3.out hb); clear hrt hb))
    go_ret2
    exact RetH.of ⟨A4, c4, rfl, HR4.out, HB4.out⟩ HE.out HD.out.2
end Go.Proofs.YtfhkmmicdbblnaaDoor

