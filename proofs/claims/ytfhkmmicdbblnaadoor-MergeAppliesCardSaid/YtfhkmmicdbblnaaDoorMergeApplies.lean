/-
  MergeApplies returns true.
-/
import Derived.Test.YtfhkmmicdbblnaaDoorE9
import Derived.Test.YtfhkmmicdbblnaaDoorMergeShortest
namespace Go.Proofs.YtfhkmmicdbblnaaDoor
set_option linter.unusedSimpArgs false
set_option linter.unusedVariables false
open Go.RowKit

set_option maxHeartbeats 4000000 in
set_option maxRecDepth 100000 in
theorem mergeApplies_any (a : ByteArray) (A : Option Addr) (c : Nat) (hs : List (Int × Int × List ByteArray)) (w : World) (ha : a.size ≤ maxLen) (h : RF w A c 3 (hs.map hkI)) (hz : ∀ h ∈ hs, ∀ x ∈ h.2.2, x.size ≤ maxLen) (hsh : w.ShapedOpen Tryd.prog) :
    Calls Tryd.prog 5 #[.string a, .slice A hs.length c] w fun e w' => e = .returned (.bool true) ∧ Below w.heap.size w w' := by
  have HML := Lib.hid (ML.of hsh)
  clear hsh hz
  have h1 := h.1
  have h2 := h.2.1
  rw [List.length_map] at h1
  have HR := Lib.hid h
  clear h
  cases hq : longB [a] with
  | true =>
    have HLG := longQ hq
    clear hq ha
    go_enter Tryd.func5, Tryd.ntmps5
    go_wp2_with (first
      | (go_at_call 7; refine (HLG.out _ _ _ (RT.one1 rfl)).mono ?_; rintro e w' ⟨rfl, rfl⟩)
      | (go_at_call 8; refine (awake_any _).mono ?_; rintro e w' ⟨rfl, hbl⟩))
    go_ret
    exact ⟨rfl, go3 (below_alloc _ _) hbl⟩
  | false =>
  have HLG := longQ hq
  have hsz := long_no hq a (by simp)
  clear hq ha
  by_cases hn : 20 < hs.length
  · have hnI : (20 : Int) < (hs.length : Int) := by omega
    go_enter Tryd.func5, Tryd.ntmps5
    go_wp2_with (first
      | (go_at_call 7; refine (HLG.out _ _ _ (RT.one1 rfl)).mono ?_; rintro e w' ⟨rfl, rfl⟩)
      | (go_at_call 8; refine (awake_any _).mono ?_; rintro e w' ⟨rfl, hbl⟩))
    go_ret
    exact ⟨rfl, go3 (below_alloc _ _) hbl⟩
  have hnI : ¬ (20 : Int) < (hs.length : Int) := by omega
  have HSZ := Lib.hid hsz
  have HN20 := Lib.hid hn
  clear hsz
  go_enter Tryd.func5, Tryd.ntmps5
  go_wp2_with (go_at_call 7; refine (HLG.out _ _ _ (RT.one1 rfl)).mono ?_; rintro e w' ⟨rfl, rfl⟩)
  go_loopw [22] (fun i wr => ∃ k : Nat, k ≤ hs.length ∧ i = .int .i64 k ∧ Hid (fineB (hs.take k) = true) ∧ Hid (Below w.heap.size w wr)) (fun i _ => hs.length - (intOf i).toNat)
  case atStart => exact ⟨0, Nat.zero_le _, rfl, Lib.hid rfl, Lib.hid (below_alloc _ _)⟩
  case round =>
    obtain ⟨k, hk, rfl, HF, HB⟩ := hrel
    have hbs := HB.out.size
    by_cases hlt : k < hs.length
    · obtain ⟨⟨f, t, ls⟩, hx⟩ : ∃ x, hs[k]? = some x := ⟨_, List.getElem?_eq_getElem hlt⟩
      obtain ⟨b, o, C, q, rfl, hb1, x0, x1, x2, r⟩ := (HR.out.below HB.out).hunkI hx
      simp only at x0 x1 x2 r
      have HT : Hid (hs.take (k + 1) = hs.take k ++ [(f, t, ls)]) := Lib.hid (by rw [List.take_add_one, hx]; rfl)
      have HRT := Lib.hid r
      have r3 := r.1
      have r4 := r.2.1
      clear hx r hb1
      by_cases hl : 20 < ls.length
      · have hlI : (20 : Int) < (ls.length : Int) := by omega
        go_wp2_with (go_at_call 8; refine (awake_any _).mono ?_; rintro e w' ⟨rfl, hbl⟩)
        go_ret
        exact ⟨rfl, go3 (HB.out.alloc hbs _) hbl⟩
      · have hlI : ¬ (20 : Int) < (ls.length : Int) := by omega
        cases hq : longB ls with
        | true =>
          have HLG2 := longQ hq
          clear hq
          go_wp2_with (first
            | (go_at_call 7; refine (HLG2.out _ _ _ (HRT.out.below (below_alloc wr (.cells #[.int .i64 f, .int .i64 t, .slice C ls.length q] 36)))).mono ?_; rintro e w' ⟨rfl, rfl⟩)
            | (go_at_call 8; refine (awake_any _).mono ?_; rintro e w' ⟨rfl, hbl⟩))
          go_ret
          exact ⟨rfl, go3 (HB.out.alloc hbs _) hbl⟩
        | false =>
          have HLG2 := longQ hq
          have HF2 : Hid (fineB (hs.take (k + 1)) = true) := Lib.hid (by
            rw [HT.out]
            unfold fineB at HF ⊢
            rw [List.all_append, HF.out]
            simp [hq]
            omega)
          clear hq
          go_wp2_with (go_at_call 7; refine (HLG2.out _ _ _ (HRT.out.below (below_alloc wr (.cells #[.int .i64 f, .int .i64 t, .slice C ls.length q] 36)))).mono ?_; rintro e w' ⟨rfl, rfl⟩)
          go_roundw
          case rel => exact ⟨k + 1, by omega, by go_num, HF2, Lib.hid (HB.out.alloc hbs _)⟩
          case measure => simp [intOf]; omega
    · obtain rfl : k = hs.length := by omega
      have hF := HF.out
      rw [List.take_length] at hF
      have hfa := fine_all hF
      have hsz := HSZ.out
      have has := ap_sizes (a := a) hsz (by omega) hfa
      have HAP := Lib.hid (fun A c W h => apply_any a A c hs W (by omega) h (fun g hg x hx => by have := (hfa g hg).2 x hx; omega) (fun _ => has))
      have HRA := Lib.hid (fun A c W hm h => rapply_any a A c hs W (by omega) hm h has)
      unfold RetS at HAP HRA
      have hss := str_self (apS a hs)
      have hee : (apE a hs == apE a hs) = true := by simp
      clear HF hF has hfa hsz
      generalize apS a hs = B at *
      generalize apE a hs = E at *
      go_wp2_with (first
        | (go_at_call 16; refine (HAP.out _ _ _ (HR.out.below HB.out)).mono ?_; rintro e w3 ⟨rfl, hb⟩; have HB2 := Lib.hid (go3 HB.out hb); clear hb)
        | (go_at_call 17; refine (HRA.out _ _ _ (HML.out.below HB2.out) (HR.out.below HB2.out)).mono ?_; rintro e w4 ⟨rfl, hb⟩; have HB3 := Lib.hid (go3 HB2.out hb); clear hb)
        | (go_at_call 8; refine (awake_any _).mono ?_; rintro e w' ⟨rfl, hbl⟩))
      go_ret
      exact ⟨rfl, go3 HB3.out hbl⟩
end Go.Proofs.YtfhkmmicdbblnaaDoor

