/-
  MergeShortest returns true.
-/
import Derived.Test.YtfhkmmicdbblnaaB2
import Derived.Test.YtfhkmmicdbblnaaMergeBack
namespace Go.Proofs.Ytfhkmmicdbblnaa
set_option linter.unusedSimpArgs false
set_option linter.unusedVariables false
open Go.RowKit

/-- the hunks are few and short enough -/
def fineB (hs : List (Int × Int × List ByteArray)) : Bool := hs.all fun h => decide (h.2.2.length ≤ 20) && !longB h.2.2
theorem fine_all {hs : List (Int × Int × List ByteArray)} (h : fineB hs = true) : ∀ g ∈ hs, g.2.2.length ≤ 20 ∧ ∀ x ∈ g.2.2, x.size ≤ 1000 := by
  intro g hg
  have := List.all_eq_true.1 h g hg
  rw [Bool.and_eq_true, decide_eq_true_eq] at this
  exact ⟨this.1, long_no (by simpa using this.2)⟩
theorem few_alone {a : ByteArray} {b : ByteArray} (h : fewB [a, b] = true) : fewB [a, b] = true := h

set_option maxHeartbeats 4000000 in
set_option maxRecDepth 100000 in
theorem mergeShortest_any (a : ByteArray) (A : Option Addr) (c : Nat) (hs : List (Int × Int × List ByteArray)) (w : World) (ha : a.size ≤ maxLen) (h : RF w A c 3 (hs.map hkI)) (hz : ∀ h ∈ hs, ∀ x ∈ h.2.2, x.size ≤ maxLen) (hsh : w.ShapedOpen Try.prog) :
    Calls Try.prog 7 #[.string a, .slice A hs.length c] w fun e w' => e = .returned (.bool true) ∧ Below w.heap.size w w' := by
  clear hsh hz
  have h1 := h.1
  have h2 := h.2.1
  rw [List.length_map] at h1
  have HR := Lib.hid h
  clear h
  cases hq : longB [a] with
  | true =>
    have HLG := longQ hq
    clear hq ha
    go_enter Try.func7, Try.ntmps7
    go_wp2_with (first
      | (go_at_call 10; refine (HLG.out _ _ _ (RT.one1 rfl)).mono ?_; rintro e w' ⟨rfl, rfl⟩)
      | (go_at_call 11; refine (awake_any _).mono ?_; rintro e w' ⟨rfl, hbl⟩))
    go_ret
    exact ⟨rfl, go3 (below_alloc _ _) hbl⟩
  | false =>
  have HLG := longQ hq
  have hsz := long_no hq a (by simp)
  clear hq ha
  by_cases hn : 20 < hs.length
  · have hnI : (20 : Int) < (hs.length : Int) := by omega
    go_enter Try.func7, Try.ntmps7
    go_wp2_with (first
      | (go_at_call 10; refine (HLG.out _ _ _ (RT.one1 rfl)).mono ?_; rintro e w' ⟨rfl, rfl⟩)
      | (go_at_call 11; refine (awake_any _).mono ?_; rintro e w' ⟨rfl, hbl⟩))
    go_ret
    exact ⟨rfl, go3 (below_alloc _ _) hbl⟩
  have hnI : ¬ (20 : Int) < (hs.length : Int) := by omega
  have HSZ := Lib.hid hsz
  have HN20 := Lib.hid hn
  clear hsz
  go_enter Try.func7, Try.ntmps7
  go_wp2_with (go_at_call 10; refine (HLG.out _ _ _ (RT.one1 rfl)).mono ?_; rintro e w' ⟨rfl, rfl⟩)
  go_loopw [21] (fun i wr => ∃ k : Nat, k ≤ hs.length ∧ i = .int .i64 k ∧ Hid (fineB (hs.take k) = true) ∧ Hid (Below w.heap.size w wr)) (fun i _ => hs.length - (intOf i).toNat)
  case atStart => exact ⟨0, Nat.zero_le _, rfl, Lib.hid rfl, Lib.hid (below_alloc _ _)⟩
  case round =>
    obtain ⟨k, hk, rfl, HF, HB⟩ := hrel
    have hbs := HB.out.size
    by_cases hlt : k < hs.length
    · obtain ⟨⟨f, t, ls⟩, hx⟩ : ∃ x, hs[k]? = some x := ⟨_, List.getElem?_eq_getElem hlt⟩
      obtain ⟨b, o, C, q, rfl, hb1, x0, x1, x2, r⟩ := (HR.out.below HB.out).hunkI hx
      simp only at x0 x1 x2 r
      have HT : Hid (hs.take (k + 1) = hs.take k ++ [(f, t, ls)]) := Lib.hid (by rw [List.take_add_one, hx]; rfl)
      have HRT := Lib.hid r
      have r3 := r.1
      have r4 := r.2.1
      clear hx r hb1
      by_cases hl : 20 < ls.length
      · have hlI : (20 : Int) < (ls.length : Int) := by omega
        go_wp2_with (go_at_call 11; refine (awake_any _).mono ?_; rintro e w' ⟨rfl, hbl⟩)
        go_ret
        exact ⟨rfl, go3 (HB.out.alloc hbs _) hbl⟩
      · have hlI : ¬ (20 : Int) < (ls.length : Int) := by omega
        cases hq : longB ls with
        | true =>
          have HLG2 := longQ hq
          clear hq
          go_wp2_with (first
            | (go_at_call 10; refine (HLG2.out _ _ _ (HRT.out.below (below_alloc wr (.cells #[.int .i64 f, .int .i64 t, .slice C ls.length q] 45)))).mono ?_; rintro e w' ⟨rfl, rfl⟩)
            | (go_at_call 11; refine (awake_any _).mono ?_; rintro e w' ⟨rfl, hbl⟩))
          go_ret
          exact ⟨rfl, go3 (HB.out.alloc hbs _) hbl⟩
        | false =>
          have HLG2 := longQ hq
          have HF2 : Hid (fineB (hs.take (k + 1)) = true) := Lib.hid (by
            rw [HT.out]
            unfold fineB at HF ⊢
            rw [List.all_append, HF.out]
            simp [hq]
            omega)
          clear hq
          go_wp2_with (go_at_call 10; refine (HLG2.out _ _ _ (HRT.out.below (below_alloc wr (.cells #[.int .i64 f, .int .i64 t, .slice C ls.length q] 45)))).mono ?_; rintro e w' ⟨rfl, rfl⟩)
          go_roundw
          case rel => exact ⟨k + 1, by omega, by go_num, HF2, Lib.hid (HB.out.alloc hbs _)⟩
          case measure => simp [intOf]; omega
    · obtain rfl : k = hs.length := by omega
      have hF := HF.out
      rw [List.take_length] at hF
      have hfa := fine_all hF
      have hsz := HSZ.out
      have has := ap_sizes (a := a) hsz (by omega) hfa
      have HAP := Lib.hid (fun A c W h => apply_any a A c hs W (by omega) h (fun g hg x hx => by have := (hfa g hg).2 x hx; omega) (fun _ => has))
      unfold RetS at HAP
      clear HF hF
      cases hq : apOk a hs with
      | false =>
        rw [(ap_bad hq).1, (ap_bad hq).2] at HAP
        clear hq has hfa hsz
        go_wp2_with (first
          | (go_at_call 18; refine (HAP.out _ _ _ (HR.out.below HB.out)).mono ?_; rintro e w3 ⟨rfl, hb⟩; have HB3 := Lib.hid (go3 HB.out hb); clear hb)
          | (go_at_call 11; refine (awake_any _).mono ?_; rintro e w' ⟨rfl, hbl⟩))
        go_ret
        exact ⟨rfl, go3 HB3.out hbl⟩
      | true =>
        rw [(ap_good hq).2] at HAP
        have HOK := Lib.hid hq
        cases hl : longB [apS a hs] with
        | true =>
          have HLG3 := longQ hl
          clear hq has hfa hl hsz
          generalize apS a hs = B at *
          go_wp2_with (first
            | (go_at_call 18; refine (HAP.out _ _ _ (HR.out.below HB.out)).mono ?_; rintro e w3 ⟨rfl, hb⟩; have HB3 := Lib.hid (below_al (go3 HB.out hb) (.cells #[.string B] 9)); clear hb)
            | (go_at_call 10; refine (HLG3.out _ _ _ (RT.one1 rfl)).mono ?_; rintro e w' ⟨rfl, rfl⟩)
            | (go_at_call 11; refine (awake_any _).mono ?_; rintro e w' ⟨rfl, hbl⟩))
          go_ret
          exact ⟨rfl, go3 HB3.out hbl⟩
        | false =>
          have HLG3 := longQ hl
          have hlb := long_no hl (apS a hs) (by simp)
          have HD := Lib.hid (fun W => diff_any a (apS a hs) W (by omega) (by omega))
          unfold RetH at HD
          cases hf : fewB [a, apS a hs] with
          | false =>
            rw [diffT_bad hf, (dv_bad hf).2] at HD
            clear hq has hfa hl hlb hf hsz
            generalize apS a hs = B at *
            go_wp2_with (first
              | (go_at_call 18; refine (HAP.out _ _ _ (HR.out.below HB.out)).mono ?_; rintro e w3 ⟨rfl, hb⟩; have HB2 := Lib.hid (below_al (go3 HB.out hb) (.cells #[.string B] 9)); clear hb)
              | (go_at_call 10; refine (HLG3.out _ _ _ (RT.one1 rfl)).mono ?_; rintro e w' ⟨rfl, rfl⟩)
              | (go_at_call 17; refine (HD.out _).mono ?_; rintro e w1 ⟨A1, c1, rfl, rf, hb⟩; have HB3 := Lib.hid (go3 HB2.out hb); clear rf hb)
              | (go_at_call 11; refine (awake_any _).mono ?_; rintro e w' ⟨rfl, hbl⟩))
            go_ret
            exact ⟨rfl, go3 HB3.out hbl⟩
          | true =>
            rw [(dv_good hf).2] at HD
            have hkm := kept_most hq hf
            have HK2 := Lib.hid (fun A c W h => kept_any a A c hs W (by omega) h (by omega) (apOk_scr hq))
            have hdl := diff_len (lB a) (lB (apS a hs))
            have hab := lB_len a
            have HK1 := Lib.hid (fun A c W (h : RF W A c 3 ((diffT a (apS a hs)).map hkF)) => by
              have := kept_any a A c ((diffT a (apS a hs)).map castH) W (by omega) (by rw [← cast_hk]; exact h) (by rw [List.length_map, diffT_few hf]; omega) (by
                rw [diffT_few hf]
                exact scrI_of (m := 0) (by omega) (diff_back _ _).2.1)
              rw [List.length_map] at this
              exact this)
            clear hq has hfa hl hlb hf hdl hab hsz
            generalize keptI ((diffT a (apS a hs)).map castH) ((lB a).length : Int) = K1 at *
            generalize keptI hs ((lB a).length : Int) = K2 at *
            generalize diffT a (apS a hs) = ds at *
            generalize apS a hs = B at *
            go_wp2_with (first
              | (go_at_call 18; refine (HAP.out _ _ _ (HR.out.below HB.out)).mono ?_; rintro e w3 ⟨rfl, hb⟩; have HB2 := Lib.hid (below_al (go3 HB.out hb) (.cells #[.string B] 9)); clear hb)
              | (go_at_call 10; refine (HLG3.out _ _ _ (RT.one1 rfl)).mono ?_; rintro e w' ⟨rfl, rfl⟩)
              | (go_at_call 17; refine (HD.out _).mono ?_; rintro e w1 ⟨A1, c1, rfl, rf, hb⟩; have HB3 := Lib.hid (go3 HB2.out hb); have HRF := Lib.hid rf; clear rf hb)
              | (go_at_call_of 19 (Value.slice A1 ds.length c1); refine (HK1.out _ _ _ HRF.out).mono ?_; rintro e w4 ⟨rfl, hb⟩; have HB4 := Lib.hid (go3 HB3.out hb); clear hb)
              | (go_at_call 19; refine (HK2.out _ _ _ (HR.out.below HB4.out)).mono ?_; rintro e w5 ⟨rfl, hb⟩; have HB5 := Lib.hid (go3 HB4.out hb); clear hb)
              | (go_at_call 11; refine (awake_any _).mono ?_; rintro e w' ⟨rfl, hbl⟩))
            go_ret
            exact ⟨rfl, go3 HB5.out hbl⟩
end Go.Proofs.Ytfhkmmicdbblnaa

