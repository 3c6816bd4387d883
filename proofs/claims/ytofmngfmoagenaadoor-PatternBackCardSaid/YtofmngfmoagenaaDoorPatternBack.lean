/-
  PatternBack returns true.
-/
import Derived.Test.YtofmngfmoagenaaDoorQ9
import Derived.Test.YtofmngfmoagenaaDoorPatternFormats
namespace Go.Proofs.YtofmngfmoagenaaDoor
set_option linter.unusedSimpArgs false
set_option linter.unusedVariables false
open Go.RowKit
open Pm

theorem textB_size {xs : List ByteArray} {r : Bool} (hl : xs.length ≤ 20) (hz : ∀ x ∈ xs, x.size ≤ 400) : (textB xs r).size ≤ 1000000 := by
  have h5 := join_le hz
  have h6 : xs.length * (400 + 1) ≤ 20 * (400 + 1) := Nat.mul_le_mul_right _ hl
  rw [Lib.size_eq, textB_data]
  simp only [List.length_cons, List.length_append]
  have : (if r = true then ([47, 46, 46, 46] : List UInt8) else []).length ≤ 4 := by cases r <;> simp
  omega

set_option maxHeartbeats 2000000 in
theorem patternBack_any (A : Option Addr) (c : Nat) (xs : List ByteArray) (r : Bool) (s : ByteArray) (W : World) (h : RT W A c xs) (hz : ∀ x ∈ xs, x.size ≤ maxLen) (hg : ∀ x ∈ xs, x.size ≤ reachBytes) (hs : s.size ≤ maxLen) (hsh : W.ShapedOpen Tryd.prog) :
    Calls Tryd.prog 5 #[.agg #[.slice A xs.length c, .bool r], .string s] W fun e w' => e = .returned (.bool true) ∧ Below W.heap.size W w' := by
  have HM := Lib.hid (ML.of hsh)
  unfold maxLen at hz hs
  have h1 := h.1
  have h2 := h.2.1
  have HX := Lib.hid h
  have HSM := Lib.hid (fun w (h : RT w A c xs) => small_any A c xs r w h hg)
  clear hsh h hz hg
  cases hsm : smallB xs with
  | false =>
    rw [hsm] at HSM
    go_enter Tryd.func5, Tryd.ntmps5
    go_wp2_with (first
      | (go_at_call 22; refine (HSM.out _ (HX.out.below (below_alloc _ _))).mono ?_; rintro e w1 ⟨rfl, hb1⟩; have HB1 := Lib.hid ((below_alloc W _).trans (hb1.mono (below_alloc W _).size)); clear hb1)
      | (go_at_call 18; refine (pawake_any _ (HM.out.below HB1.out)).mono ?_; rintro e w2 ⟨rfl, hb2⟩))
    go_ret
    exact ⟨rfl, HB1.out.trans (hb2.mono HB1.out.size)⟩
  | true =>
    rw [hsm] at HSM
    by_cases hl : 400 < s.size
    · go_enter Tryd.func5, Tryd.ntmps5
      go_wp2_with (first
        | (go_at_call 22; refine (HSM.out _ (HX.out.below (below_alloc _ _))).mono ?_; rintro e w1 ⟨rfl, hb1⟩; have HB1 := Lib.hid ((below_alloc W _).trans (hb1.mono (below_alloc W _).size)); clear hb1)
        | (go_at_call 18; refine (pawake_any _ (HM.out.below HB1.out)).mono ?_; rintro e w2 ⟨rfl, hb2⟩))
      go_ret
      exact ⟨rfl, HB1.out.trans (hb2.mono HB1.out.size)⟩
    · obtain ⟨hl20, _, hsz⟩ := small_yes hsm
      have HFM := Lib.hid (fun w (h : RT w A c xs) => format_any A c xs r w h (fun x hx => by have := hsz x hx; omega))
      have HF : Hid (formatB xs r = if checkP xs r = 0 then textB xs r else ⟨#[]⟩) := Lib.hid rfl
      have HEQ := Lib.hid (fun B D d e w h k => eq_any B D d e xs xs w h k)
      rw [show decide (xs = xs) = true from by simp] at HEQ
      have HPT := Lib.hid (fun (hn : checkP xs r = 0) w hm => (parse_any (textB xs r) w (textB_size hl20 hsz) hm).mono fun _ _ h => by
        obtain ⟨k1, k2, k3⟩ := parse_text hn
        rw [k2, k3] at h
        exact h.1 k1)
      have HFS := Lib.hid (fun (hn : parseN s = 0) D f w (h : RT w D f (ppartsB s)) => format_any D f (ppartsB s) (prestB s) w h (fun x hx => by have := ppartsB_size s x hx; omega))
      have HPS0 := Lib.hid (fun w hm => parse_any s w (by omega) hm)
      have htp : parseN s = 0 → formatB (ppartsB s) (prestB s) = s ∧ checkP (ppartsB s) (prestB s) = 0 := fun h => by
        obtain ⟨k1, k2⟩ := text_parse h
        unfold formatB
        rw [if_pos k1, k2]
        exact ⟨rfl, k1⟩
      have heq := text_selfB s
      have HTP := Lib.hid htp
      clear hsz hsm htp
      by_cases hm : parseN s = 0
      · have HPS1 := Lib.hid (fun w hw => (HPS0.out w hw).mono fun _ _ h => h.1 hm)
        have HPS := HPS1
        have HFS1 := Lib.hid (HFS.out hm)
        rw [(HTP.out hm).1, (HTP.out hm).2] at HFS1
        have HFS := HFS1
        clear HPS1 HFS1 HPS0 HTP
        generalize ppartsB s = ys at *
        generalize prestB s = t at *
        clear hm
        by_cases hn : checkP xs r = 0
        · rw [if_pos hn] at HF
          rw [HF.out, hn] at HFM
          have HPT1 := Lib.hid (HPT.out hn)
          have HPT := HPT1
          clear HPT1 hn
          generalize textB xs r = tx at *
          go_enter Tryd.func5, Tryd.ntmps5
          go_wp2_with (first
            | (go_at_call 22; refine (HSM.out _ (HX.out.below (below_alloc _ _))).mono ?_; rintro e w1 ⟨rfl, hb1⟩; have P1 := Lib.hid ((PX.new W (.slice A xs.length c) (.bool r) _).below hb1); obtain ⟨p1, p2, p3, p4, p5⟩ := P1.out; have HB1 := Lib.hid ((below_alloc W _).trans (hb1.mono (below_alloc W _).size)); clear hb1)
            | (go_at_call_of 26 (Value.agg #[.slice A xs.length c, .bool r]); refine (HFM.out _ (HX.out.below HB1.out)).mono ?_; rintro e w2 ⟨rfl, hb2⟩; have P2 := Lib.hid (P1.out.below hb2); have HB2 := Lib.hid (HB1.out.trans (hb2.mono HB1.out.size)); clear hb2)
            | (go_at_call_of 19 (Value.string tx); refine (HPT.out _ (HM.out.below HB2.out)).mono ?_; rintro e w3 ⟨B, d, rfl, hr3, hb3⟩; have P3 := Lib.hid ((P2.out.below hb3).below (below_alloc w3 (.cells #[.slice B xs.length d, .bool r] 25))); obtain ⟨s1, s2, s3, s4, s5⟩ := P3.out; have HB3 := Lib.hid (HB2.out.trans (hb3.mono HB2.out.size)); have HB3a := Lib.hid (HB3.out.alloc HB3.out.size (.cells #[.slice B xs.length d, .bool r] 25)); have HR3 := Lib.hid (hr3.below (below_alloc w3 (.cells #[.slice B xs.length d, .bool r] 25))); clear hr3 hb3)
            | (go_at_call 25; refine (HEQ.out B A d c _ HR3.out (HX.out.below HB3a.out)).mono ?_; rintro e w4 ⟨rfl, hb4⟩; have HB4 := Lib.hid (HB3a.out.trans (hb4.mono HB3a.out.size)); clear hb4)
            | (go_at_call_of 19 (Value.string s); refine (HPS.out _ (HM.out.below HB4.out)).mono ?_; rintro e w5 ⟨D, f, rfl, hr5, hb5⟩; have HB5 := Lib.hid (HB4.out.trans (hb5.mono HB4.out.size)); have HB5a := Lib.hid (HB5.out.alloc HB5.out.size (.cells #[.slice D ys.length f, .bool t] 25)); have HR5 := Lib.hid (hr5.below (below_alloc w5 (.cells #[.slice D ys.length f, .bool t] 25))); clear hr5 hb5)
            | (go_at_call_of 26 (Value.agg #[.slice D ys.length f, .bool t]); refine (HFS.out D f _ HR5.out).mono ?_; rintro e w6 ⟨rfl, hb6⟩; have HB6 := Lib.hid (HB5a.out.trans (hb6.mono HB5a.out.size)); clear hb6)
            | (go_at_call 18; refine (pawake_any _ (HM.out.below HB6.out)).mono ?_; rintro e w8 ⟨rfl, hb8⟩; have HB8 := Lib.hid (HB6.out.trans (hb8.mono HB6.out.size)); clear hb8))
          go_ret
          exact ⟨rfl, HB8.out⟩
        · have hnB : (checkP xs r == 0) = false := by rw [beq_eq_false_iff_ne]; exact hn
          clear hn HPT HF
          generalize checkP xs r = n at *
          generalize formatB xs r = tx at *
          go_enter Tryd.func5, Tryd.ntmps5
          go_wp2_with (first
            | (go_at_call 22; refine (HSM.out _ (HX.out.below (below_alloc _ _))).mono ?_; rintro e w1 ⟨rfl, hb1⟩; have P1 := Lib.hid ((PX.new W (.slice A xs.length c) (.bool r) _).below hb1); obtain ⟨p1, p2, p3, p4, p5⟩ := P1.out; have HB1 := Lib.hid ((below_alloc W _).trans (hb1.mono (below_alloc W _).size)); clear hb1)
            | (go_at_call_of 26 (Value.agg #[.slice A xs.length c, .bool r]); refine (HFM.out _ (HX.out.below HB1.out)).mono ?_; rintro e w2 ⟨rfl, hb2⟩; have P2 := Lib.hid (P1.out.below hb2); have HB2 := Lib.hid (HB1.out.trans (hb2.mono HB1.out.size)); clear hb2)
            | (go_at_call_of 19 (Value.string s); refine (HPS.out _ (HM.out.below HB2.out)).mono ?_; rintro e w5 ⟨D, f, rfl, hr5, hb5⟩; have HB5 := Lib.hid (HB2.out.trans (hb5.mono HB2.out.size)); have HB5a := Lib.hid (HB5.out.alloc HB5.out.size (.cells #[.slice D ys.length f, .bool t] 25)); have HR5 := Lib.hid (hr5.below (below_alloc w5 (.cells #[.slice D ys.length f, .bool t] 25))); clear hr5 hb5)
            | (go_at_call_of 26 (Value.agg #[.slice D ys.length f, .bool t]); refine (HFS.out D f _ HR5.out).mono ?_; rintro e w6 ⟨rfl, hb6⟩; have HB6 := Lib.hid (HB5a.out.trans (hb6.mono HB5a.out.size)); clear hb6)
            | (go_at_call 18; refine (pawake_any _ (HM.out.below HB6.out)).mono ?_; rintro e w8 ⟨rfl, hb8⟩; have HB8 := Lib.hid (HB6.out.trans (hb8.mono HB6.out.size)); clear hb8))
          go_ret
          exact ⟨rfl, HB8.out⟩
      · have HPS1 := Lib.hid (fun w hw => (HPS0.out w hw).mono fun _ _ h => h.2 hm)
        have HPS2 : Hid (∀ (w : World), ML w → Calls Tryd.prog 19 #[.string s] w (RetP w ([] : List ByteArray) false (parseN s))) := HPS1
        have hmB : (parseN s != 0) = true := by rw [bne_iff_ne]; exact hm
        clear hm HPS1 HPS0 HTP HFS
        have hys : ∃ ys : List ByteArray, ys = [] := ⟨_, rfl⟩
        obtain ⟨ys, hys⟩ := hys
        obtain ⟨t, ht⟩ : ∃ t, t = false := ⟨_, rfl⟩
        rw [← hys, ← ht] at HPS2
        have HPS := HPS2
        clear HPS2 hys ht
        generalize parseN s = m at *
        by_cases hn : checkP xs r = 0
        · rw [if_pos hn] at HF
          rw [HF.out, hn] at HFM
          have HPT1 := Lib.hid (HPT.out hn)
          have HPT := HPT1
          clear HPT1 hn
          generalize textB xs r = tx at *
          go_enter Tryd.func5, Tryd.ntmps5
          go_wp2_with (first
            | (go_at_call 22; refine (HSM.out _ (HX.out.below (below_alloc _ _))).mono ?_; rintro e w1 ⟨rfl, hb1⟩; have P1 := Lib.hid ((PX.new W (.slice A xs.length c) (.bool r) _).below hb1); obtain ⟨p1, p2, p3, p4, p5⟩ := P1.out; have HB1 := Lib.hid ((below_alloc W _).trans (hb1.mono (below_alloc W _).size)); clear hb1)
            | (go_at_call_of 26 (Value.agg #[.slice A xs.length c, .bool r]); refine (HFM.out _ (HX.out.below HB1.out)).mono ?_; rintro e w2 ⟨rfl, hb2⟩; have P2 := Lib.hid (P1.out.below hb2); have HB2 := Lib.hid (HB1.out.trans (hb2.mono HB1.out.size)); clear hb2)
            | (go_at_call_of 19 (Value.string tx); refine (HPT.out _ (HM.out.below HB2.out)).mono ?_; rintro e w3 ⟨B, d, rfl, hr3, hb3⟩; have P3 := Lib.hid ((P2.out.below hb3).below (below_alloc w3 (.cells #[.slice B xs.length d, .bool r] 25))); obtain ⟨s1, s2, s3, s4, s5⟩ := P3.out; have HB3 := Lib.hid (HB2.out.trans (hb3.mono HB2.out.size)); have HB3a := Lib.hid (HB3.out.alloc HB3.out.size (.cells #[.slice B xs.length d, .bool r] 25)); have HR3 := Lib.hid (hr3.below (below_alloc w3 (.cells #[.slice B xs.length d, .bool r] 25))); clear hr3 hb3)
            | (go_at_call 25; refine (HEQ.out B A d c _ HR3.out (HX.out.below HB3a.out)).mono ?_; rintro e w4 ⟨rfl, hb4⟩; have HB4 := Lib.hid (HB3a.out.trans (hb4.mono HB3a.out.size)); clear hb4)
            | (go_at_call_of 19 (Value.string s); refine (HPS.out _ (HM.out.below HB4.out)).mono ?_; rintro e w5 ⟨D, f, rfl, hr5, hb5⟩; have HB5 := Lib.hid (HB4.out.trans (hb5.mono HB4.out.size)); have HB5a := Lib.hid (HB5.out.alloc HB5.out.size (.cells #[.slice D ys.length f, .bool t] 25)); have HR5 := Lib.hid (hr5.below (below_alloc w5 (.cells #[.slice D ys.length f, .bool t] 25))); clear hr5 hb5)
            | (go_at_call 18; refine (pawake_any _ (HM.out.below HB5a.out)).mono ?_; rintro e w8 ⟨rfl, hb8⟩; have HB8 := Lib.hid (HB5a.out.trans (hb8.mono HB5a.out.size)); clear hb8))
          go_ret
          exact ⟨rfl, HB8.out⟩
        · have hnB : (checkP xs r == 0) = false := by rw [beq_eq_false_iff_ne]; exact hn
          clear hn HPT HF
          generalize checkP xs r = n at *
          generalize formatB xs r = tx at *
          go_enter Tryd.func5, Tryd.ntmps5
          go_wp2_with (first
            | (go_at_call 22; refine (HSM.out _ (HX.out.below (below_alloc _ _))).mono ?_; rintro e w1 ⟨rfl, hb1⟩; have P1 := Lib.hid ((PX.new W (.slice A xs.length c) (.bool r) _).below hb1); obtain ⟨p1, p2, p3, p4, p5⟩ := P1.out; have HB1 := Lib.hid ((below_alloc W _).trans (hb1.mono (below_alloc W _).size)); clear hb1)
            | (go_at_call_of 26 (Value.agg #[.slice A xs.length c, .bool r]); refine (HFM.out _ (HX.out.below HB1.out)).mono ?_; rintro e w2 ⟨rfl, hb2⟩; have P2 := Lib.hid (P1.out.below hb2); have HB2 := Lib.hid (HB1.out.trans (hb2.mono HB1.out.size)); clear hb2)
            | (go_at_call_of 19 (Value.string s); refine (HPS.out _ (HM.out.below HB2.out)).mono ?_; rintro e w5 ⟨D, f, rfl, hr5, hb5⟩; have HB5 := Lib.hid (HB2.out.trans (hb5.mono HB2.out.size)); have HB5a := Lib.hid (HB5.out.alloc HB5.out.size (.cells #[.slice D ys.length f, .bool t] 25)); have HR5 := Lib.hid (hr5.below (below_alloc w5 (.cells #[.slice D ys.length f, .bool t] 25))); clear hr5 hb5)
            | (go_at_call 18; refine (pawake_any _ (HM.out.below HB5a.out)).mono ?_; rintro e w8 ⟨rfl, hb8⟩; have HB8 := Lib.hid (HB5a.out.trans (hb8.mono HB5a.out.size)); clear hb8))
          go_ret
          exact ⟨rfl, HB8.out⟩
end Go.Proofs.YtofmngfmoagenaaDoor

