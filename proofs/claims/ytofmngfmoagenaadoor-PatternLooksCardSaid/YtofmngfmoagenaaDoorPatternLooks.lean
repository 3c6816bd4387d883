/-
  PatternLooks returns true.
-/
import Derived.Test.YtofmngfmoagenaaDoorQ10
import Derived.Test.YtofmngfmoagenaaDoorPatternFormats
namespace Go.Proofs.YtofmngfmoagenaaDoor
set_option linter.unusedSimpArgs false
set_option linter.unusedVariables false
open Go.RowKit
open Pm

def litOk (xs : List ByteArray) (r : Bool) : Bool := (checkP xs r == 0) && (!r && !(xs.any stB))
def litS (xs : List ByteArray) (r : Bool) : ByteArray := if litOk xs r = true then textB xs r else ⟨#[]⟩

set_option maxHeartbeats 1000000 in
theorem literal_any (A : Option Addr) (c : Nat) (xs : List ByteArray) (r : Bool) (w : World) (h : RT w A c xs) (hz : ∀ x ∈ xs, x.size ≤ 1000000) :
    Calls Tryd.prog 35 #[.agg #[.slice A xs.length c, .bool r]] w fun e w' => e = .returned (.tuple #[.string (litS xs r), .bool (litOk xs r)]) ∧ Below w.heap.size w w' := by
  have HX := Lib.hid h
  have HCK := Lib.hid (fun W (h : RT W A c xs) => check_any A c xs r W h (fun x hx => by have := hz x hx; omega))
  have HAN := Lib.hid (fun W (h : RT W A c xs) => anyStar_any A c xs W h)
  have HLS : Hid (litS xs r = if litOk xs r = true then textB xs r else ⟨#[]⟩) := Lib.hid rfl
  have HLO : Hid (litOk xs r = ((checkP xs r == 0) && (!r && !(xs.any stB)))) := Lib.hid rfl
  by_cases hn : checkP xs r = 0
  · have hl := (check_zero hn).2.1
    have HTX := Lib.hid (fun W (h : RT W A c xs) => text_any A c xs r W h (by omega) hz)
    rw [hn] at HLO HCK
    clear h hz hn
    generalize xs.any stB = b at *
    generalize textB xs r = tx at *
    cases r with
    | true =>
      have HLO2 : Hid (litOk xs true = false) := Lib.hid HLO.out
      have HLS2 : Hid (litS xs true = ⟨#[]⟩) := Lib.hid (by rw [HLS.out, HLO2.out]; rfl)
      rw [HLO2.out, HLS2.out]
      go_enter Tryd.func35, Tryd.ntmps35
      go_wp2_with (go_at_call 29; refine (HCK.out _ (HX.out.below (below_alloc _ _))).mono ?_; rintro e w1 ⟨rfl, hb⟩; obtain ⟨p1, p2, p3, p4, p5⟩ := (PX.new w (.slice A xs.length c) (.bool _) _).below hb; have HB1 := Lib.hid ((below_alloc w _).trans (hb.mono (below_alloc w _).size)); clear hb)
      go_ret2
      exact ⟨rfl, HB1.out⟩
    | false =>
      cases b with
      | true =>
        have HLO2 : Hid (litOk xs false = false) := Lib.hid HLO.out
        have HLS2 : Hid (litS xs false = ⟨#[]⟩) := Lib.hid (by rw [HLS.out, HLO2.out]; rfl)
        rw [HLO2.out, HLS2.out]
        go_enter Tryd.func35, Tryd.ntmps35
        go_wp2_with (first
          | (go_at_call 29; refine (HCK.out _ (HX.out.below (below_alloc _ _))).mono ?_; rintro e w1 ⟨rfl, hb⟩; have P1 := Lib.hid ((PX.new w (.slice A xs.length c) (.bool _) _).below hb); obtain ⟨p1, p2, p3, p4, p5⟩ := P1.out; have HB1 := Lib.hid ((below_alloc w _).trans (hb.mono (below_alloc w _).size)); clear hb)
          | (go_at_call 62; refine (HAN.out _ (HX.out.below HB1.out)).mono ?_; rintro e w2 ⟨rfl, hb⟩; have HB2 := Lib.hid (HB1.out.trans (hb.mono HB1.out.size)); clear hb))
        go_ret2
        exact ⟨rfl, HB2.out⟩
      | false =>
        have HLO2 : Hid (litOk xs false = true) := Lib.hid HLO.out
        have HLS2 : Hid (litS xs false = tx) := Lib.hid (by rw [HLS.out, HLO2.out]; rfl)
        rw [HLO2.out, HLS2.out]
        go_enter Tryd.func35, Tryd.ntmps35
        go_wp2_with (first
          | (go_at_call 29; refine (HCK.out _ (HX.out.below (below_alloc _ _))).mono ?_; rintro e w1 ⟨rfl, hb⟩; have P1 := Lib.hid ((PX.new w (.slice A xs.length c) (.bool _) _).below hb); obtain ⟨p1, p2, p3, p4, p5⟩ := P1.out; have HB1 := Lib.hid ((below_alloc w _).trans (hb.mono (below_alloc w _).size)); clear hb)
          | (go_at_call 62; refine (HAN.out _ (HX.out.below HB1.out)).mono ?_; rintro e w2 ⟨rfl, hb⟩; obtain ⟨q1, q2, q3, q4, q5⟩ := P1.out.below hb; have HB2 := Lib.hid (HB1.out.trans (hb.mono HB1.out.size)); clear hb)
          | (go_at_call 56; refine (HTX.out _ (HX.out.below HB2.out)).mono ?_; rintro e w3 ⟨rfl, hb⟩; have HB3 := Lib.hid (HB2.out.trans (hb.mono HB2.out.size)); clear hb))
        go_ret2
        exact ⟨rfl, HB3.out⟩
  · have hnB : (checkP xs r != 0) = true := by rw [bne_iff_ne]; exact hn
    have HLO2 : Hid (litOk xs r = false) := Lib.hid (by rw [HLO.out, beq_eq_false_iff_ne.2 hn]; rfl)
    have HLS2 : Hid (litS xs r = ⟨#[]⟩) := Lib.hid (by rw [HLS.out, HLO2.out]; rfl)
    rw [HLO2.out, HLS2.out]
    clear h hz hn
    generalize checkP xs r = n at *
    go_enter Tryd.func35, Tryd.ntmps35
    go_wp2_with (go_at_call 29; refine (HCK.out _ (HX.out.below (below_alloc _ _))).mono ?_; rintro e w1 ⟨rfl, hb⟩; have HB1 := Lib.hid ((below_alloc w _).trans (hb.mono (below_alloc w _).size)); clear hb)
    go_ret2
    exact ⟨rfl, HB1.out⟩

set_option maxHeartbeats 2000000 in
theorem patternLooks_any (A : Option Addr) (c : Nat) (xs : List ByteArray) (r : Bool) (W : World) (h : RT W A c xs) (hz : ∀ x ∈ xs, x.size ≤ maxLen) (hg : ∀ x ∈ xs, x.size ≤ reachBytes) (hsh : W.ShapedOpen Tryd.prog) :
    Calls Tryd.prog 9 #[.agg #[.slice A xs.length c, .bool r]] W fun e w' => e = .returned (.bool true) ∧ Below W.heap.size W w' := by
  have HM := Lib.hid (ML.of hsh)
  unfold maxLen at hz
  have h1 := h.1
  have h2 := h.2.1
  have HX := Lib.hid h
  have HSM := Lib.hid (fun w (h : RT w A c xs) => small_any A c xs r w h hg)
  have HZ := Lib.hid hz
  clear hsh h hz hg
  cases hsm : smallB xs with
  | false =>
    rw [hsm] at HSM
    go_enter Tryd.func9, Tryd.ntmps9
    go_wp2_with (first
      | (go_at_call 22; refine (HSM.out _ (HX.out.below (below_alloc _ _))).mono ?_; rintro e w1 ⟨rfl, hb1⟩; have HB1 := Lib.hid ((below_alloc W _).trans (hb1.mono (below_alloc W _).size)); clear hb1)
      | (go_at_call 18; refine (pawake_any _ (HM.out.below HB1.out)).mono ?_; rintro e w2 ⟨rfl, hb2⟩))
    go_ret
    exact ⟨rfl, HB1.out.trans (hb2.mono HB1.out.size)⟩
  | true =>
    rw [hsm] at HSM
    obtain ⟨hl20, _, hsz⟩ := small_yes hsm
    have HRC := Lib.hid (fun w (h : RT w A c xs) => rcheck_any A c xs r w h HZ.out)
    have HKI := Lib.hid (fun w (h : RT w A c xs) => kinds_any A c xs r w h HZ.out)
    have HRK := Lib.hid (fun w (h : RT w A c xs) => rkinds_any A c xs r w h HZ.out)
    have HLI := Lib.hid (fun w (h : RT w A c xs) => literal_any A c xs r w h (fun x hx => by have := hsz x hx; omega))
    have HTX := Lib.hid (fun w (h : RT w A c xs) => rtext_any A c xs r w h hl20 (fun x hx => by have := hsz x hx; omega))
    have HLS : Hid (litS xs r = if litOk xs r = true then textB xs r else ⟨#[]⟩) := Lib.hid rfl
    have HLO : Hid (litOk xs r = ((checkP xs r == 0) && (!r && !(xs.any stB)))) := Lib.hid rfl
    have HK : Hid (kindN xs r = if checkP xs r = 0 then countB stB xs else 0) := Lib.hid rfl
    have HKR : Hid (kindR xs r = if checkP xs r = 0 then r else false) := Lib.hid rfl
    clear hsz hsm
    by_cases hn : checkP xs r = 0
    · have hca : countB starOk xs = countB stB xs := count_agree (parts_all (check_zero hn).2.2)
      have hcl := count_le stB xs
      have hx12 := (check_zero hn).2.1
      have hcz : ((countB stB xs : Int) == 0) = !(xs.any stB) := by
        have := @count_zero stB xs
        cases ha : xs.any stB with
        | true =>
          rw [ha] at this
          rw [Bool.not_true, beq_eq_false_iff_ne]
          intro e
          have h0 : countB stB xs = 0 := by omega
          have := this.1 h0
          cases this
        | false =>
          rw [this.2 ha]
          rfl
      rw [if_pos hn] at HK HKR
      rw [hn] at HLO HRC
      rw [HK.out, HKR.out, hn] at HKI
      rw [hca] at HRK
      clear HK HKR hca hn
      have htt := text_selfB (textB xs r)
      have HCZ := Lib.hid hcz
      clear hcz
      generalize countB stB xs = m at *
      generalize xs.any stB = b at *
      have hmm : ((m : Int) != (m : Int)) = false := by simp
      generalize textB xs r = tx at *
      cases r with
      | true =>
        have hlo : litOk xs true = false := HLO.out
        have hls : litS xs true = ⟨#[]⟩ := by rw [HLS.out, hlo]; rfl
        rw [hlo, hls] at HLI
        clear hlo hls
        cases b <;>
        · have hcz := HCZ.out
          simp only [Bool.not_true, Bool.not_false] at hcz
          go_enter Tryd.func9, Tryd.ntmps9
          go_wp2_with (first
            | (go_at_call 22; refine (HSM.out _ (HX.out.below (below_alloc _ _))).mono ?_; rintro e w1 ⟨rfl, hb1⟩; have P1 := Lib.hid ((PX.new W (.slice A xs.length c) (.bool _) _).below hb1); obtain ⟨p1, p2, p3, p4, p5⟩ := P1.out; have HB1 := Lib.hid ((below_alloc W _).trans (hb1.mono (below_alloc W _).size)); clear hb1)
            | (go_at_call 34; refine (HKI.out _ (HX.out.below HB1.out)).mono ?_; rintro e w2 ⟨rfl, hb2⟩; have P2 := Lib.hid (P1.out.below hb2); obtain ⟨k21, k22, k23, k24, k25⟩ := P2.out; have HB2 := Lib.hid (HB1.out.trans (hb2.mono HB1.out.size)); clear hb2)
            | (go_at_call 35; refine (HLI.out _ (HX.out.below HB2.out)).mono ?_; rintro e w3 ⟨rfl, hb3⟩; have P3 := Lib.hid (P2.out.below hb3); obtain ⟨k31, k32, k33, k34, k35⟩ := P3.out; have HB3 := Lib.hid (HB2.out.trans (hb3.mono HB2.out.size)); clear hb3)
            | (go_at_call 28; refine (HRC.out _ (HX.out.below HB3.out)).mono ?_; rintro e w4 ⟨rfl, hb4⟩; have P4 := Lib.hid (P3.out.below hb4); obtain ⟨k41, k42, k43, k44, k45⟩ := P4.out; have HB4 := Lib.hid (HB3.out.trans (hb4.mono HB3.out.size)); clear hb4)
            | (go_at_call 36; refine (HRK.out _ (HX.out.below HB4.out)).mono ?_; rintro e w5 ⟨rfl, hb5⟩; have P5 := Lib.hid (P4.out.below hb5); obtain ⟨k51, k52, k53, k54, k55⟩ := P5.out; have HB5 := Lib.hid (HB4.out.trans (hb5.mono HB4.out.size)); clear hb5)
            | (go_at_call 18; refine (pawake_any _ (HM.out.below HB5.out)).mono ?_; rintro e w8 ⟨rfl, hb8⟩; have HB8 := Lib.hid (HB5.out.trans (hb8.mono HB5.out.size)); clear hb8))
          go_ret
          exact ⟨rfl, HB8.out⟩
      | false =>
        cases b with
        | true =>
          have hlo : litOk xs false = false := HLO.out
          have hls : litS xs false = ⟨#[]⟩ := by rw [HLS.out, hlo]; rfl
          rw [hlo, hls] at HLI
          have hcz : ((m : Int) == 0) = false := HCZ.out
          clear hlo hls
          go_enter Tryd.func9, Tryd.ntmps9
          go_wp2_with (first
            | (go_at_call 22; refine (HSM.out _ (HX.out.below (below_alloc _ _))).mono ?_; rintro e w1 ⟨rfl, hb1⟩; have P1 := Lib.hid ((PX.new W (.slice A xs.length c) (.bool _) _).below hb1); obtain ⟨p1, p2, p3, p4, p5⟩ := P1.out; have HB1 := Lib.hid ((below_alloc W _).trans (hb1.mono (below_alloc W _).size)); clear hb1)
            | (go_at_call 34; refine (HKI.out _ (HX.out.below HB1.out)).mono ?_; rintro e w2 ⟨rfl, hb2⟩; have P2 := Lib.hid (P1.out.below hb2); obtain ⟨k21, k22, k23, k24, k25⟩ := P2.out; have HB2 := Lib.hid (HB1.out.trans (hb2.mono HB1.out.size)); clear hb2)
            | (go_at_call 35; refine (HLI.out _ (HX.out.below HB2.out)).mono ?_; rintro e w3 ⟨rfl, hb3⟩; have P3 := Lib.hid (P2.out.below hb3); obtain ⟨k31, k32, k33, k34, k35⟩ := P3.out; have HB3 := Lib.hid (HB2.out.trans (hb3.mono HB2.out.size)); clear hb3)
            | (go_at_call 28; refine (HRC.out _ (HX.out.below HB3.out)).mono ?_; rintro e w4 ⟨rfl, hb4⟩; have P4 := Lib.hid (P3.out.below hb4); obtain ⟨k41, k42, k43, k44, k45⟩ := P4.out; have HB4 := Lib.hid (HB3.out.trans (hb4.mono HB3.out.size)); clear hb4)
            | (go_at_call 36; refine (HRK.out _ (HX.out.below HB4.out)).mono ?_; rintro e w5 ⟨rfl, hb5⟩; have P5 := Lib.hid (P4.out.below hb5); obtain ⟨k51, k52, k53, k54, k55⟩ := P5.out; have HB5 := Lib.hid (HB4.out.trans (hb5.mono HB4.out.size)); clear hb5)
            | (go_at_call 18; refine (pawake_any _ (HM.out.below HB5.out)).mono ?_; rintro e w8 ⟨rfl, hb8⟩; have HB8 := Lib.hid (HB5.out.trans (hb8.mono HB5.out.size)); clear hb8))
          go_ret
          exact ⟨rfl, HB8.out⟩
        | false =>
          have hlo : litOk xs false = true := HLO.out
          have hls : litS xs false = tx := by rw [HLS.out, hlo]; rfl
          rw [hlo, hls] at HLI
          have hcz : ((m : Int) == 0) = true := HCZ.out
          clear hlo hls
          go_enter Tryd.func9, Tryd.ntmps9
          go_wp2_with (first
            | (go_at_call 22; refine (HSM.out _ (HX.out.below (below_alloc _ _))).mono ?_; rintro e w1 ⟨rfl, hb1⟩; have P1 := Lib.hid ((PX.new W (.slice A xs.length c) (.bool _) _).below hb1); obtain ⟨p1, p2, p3, p4, p5⟩ := P1.out; have HB1 := Lib.hid ((below_alloc W _).trans (hb1.mono (below_alloc W _).size)); clear hb1)
            | (go_at_call 34; refine (HKI.out _ (HX.out.below HB1.out)).mono ?_; rintro e w2 ⟨rfl, hb2⟩; have P2 := Lib.hid (P1.out.below hb2); obtain ⟨k21, k22, k23, k24, k25⟩ := P2.out; have HB2 := Lib.hid (HB1.out.trans (hb2.mono HB1.out.size)); clear hb2)
            | (go_at_call 35; refine (HLI.out _ (HX.out.below HB2.out)).mono ?_; rintro e w3 ⟨rfl, hb3⟩; have P3 := Lib.hid (P2.out.below hb3); obtain ⟨k31, k32, k33, k34, k35⟩ := P3.out; have HB3 := Lib.hid (HB2.out.trans (hb3.mono HB2.out.size)); clear hb3)
            | (go_at_call 28; refine (HRC.out _ (HX.out.below HB3.out)).mono ?_; rintro e w4 ⟨rfl, hb4⟩; have P4 := Lib.hid (P3.out.below hb4); obtain ⟨k41, k42, k43, k44, k45⟩ := P4.out; have HB4 := Lib.hid (HB3.out.trans (hb4.mono HB3.out.size)); clear hb4)
            | (go_at_call 36; refine (HRK.out _ (HX.out.below HB4.out)).mono ?_; rintro e w5 ⟨rfl, hb5⟩; have P5 := Lib.hid (P4.out.below hb5); obtain ⟨k51, k52, k53, k54, k55⟩ := P5.out; have HB5 := Lib.hid (HB4.out.trans (hb5.mono HB4.out.size)); clear hb5)
            | (go_at_call 30; refine (HTX.out _ (HX.out.below HB5.out)).mono ?_; rintro e w6 ⟨rfl, hb6⟩; have P6 := Lib.hid (P5.out.below hb6); obtain ⟨k61, k62, k63, k64, k65⟩ := P6.out; have HB6 := Lib.hid (HB5.out.trans (hb6.mono HB5.out.size)); clear hb6)
            | (go_at_call 18; refine (pawake_any _ (HM.out.below HB6.out)).mono ?_; rintro e w8 ⟨rfl, hb8⟩; have HB8 := Lib.hid (HB6.out.trans (hb8.mono HB6.out.size)); clear hb8))
          go_ret
          exact ⟨rfl, HB8.out⟩
    · rw [if_neg hn] at HK HKR
      have hnB : (checkP xs r != 0) = true := by rw [bne_iff_ne]; exact hn
      have hnn : (checkP xs r == checkP xs r) = true := by simp
      have hlo : litOk xs r = false := by rw [HLO.out, beq_eq_false_iff_ne.2 hn]; rfl
      have hls : litS xs r = ⟨#[]⟩ := by rw [HLS.out, hlo]; rfl
      rw [hlo, hls] at HLI
      rw [HK.out, HKR.out] at HKI
      clear hn hlo hls HLO HLS HK HKR HRK HTX
      generalize checkP xs r = n at *
      go_enter Tryd.func9, Tryd.ntmps9
      go_wp2_with (first
        | (go_at_call 22; refine (HSM.out _ (HX.out.below (below_alloc _ _))).mono ?_; rintro e w1 ⟨rfl, hb1⟩; have P1 := Lib.hid ((PX.new W (.slice A xs.length c) (.bool _) _).below hb1); obtain ⟨p1, p2, p3, p4, p5⟩ := P1.out; have HB1 := Lib.hid ((below_alloc W _).trans (hb1.mono (below_alloc W _).size)); clear hb1)
        | (go_at_call 34; refine (HKI.out _ (HX.out.below HB1.out)).mono ?_; rintro e w2 ⟨rfl, hb2⟩; have P2 := Lib.hid (P1.out.below hb2); obtain ⟨k21, k22, k23, k24, k25⟩ := P2.out; have HB2 := Lib.hid (HB1.out.trans (hb2.mono HB1.out.size)); clear hb2)
        | (go_at_call 35; refine (HLI.out _ (HX.out.below HB2.out)).mono ?_; rintro e w3 ⟨rfl, hb3⟩; have P3 := Lib.hid (P2.out.below hb3); obtain ⟨k31, k32, k33, k34, k35⟩ := P3.out; have HB3 := Lib.hid (HB2.out.trans (hb3.mono HB2.out.size)); clear hb3)
        | (go_at_call 28; refine (HRC.out _ (HX.out.below HB3.out)).mono ?_; rintro e w4 ⟨rfl, hb4⟩; have P4 := Lib.hid (P3.out.below hb4); obtain ⟨k41, k42, k43, k44, k45⟩ := P4.out; have HB4 := Lib.hid (HB3.out.trans (hb4.mono HB3.out.size)); clear hb4)
        | (go_at_call 18; refine (pawake_any _ (HM.out.below HB4.out)).mono ?_; rintro e w8 ⟨rfl, hb8⟩; have HB8 := Lib.hid (HB4.out.trans (hb8.mono HB4.out.size)); clear hb8))
      go_ret
      exact ⟨rfl, HB8.out⟩
end Go.Proofs.YtofmngfmoagenaaDoor

