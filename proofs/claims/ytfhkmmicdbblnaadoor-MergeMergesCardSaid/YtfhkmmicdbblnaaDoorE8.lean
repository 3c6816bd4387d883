/-
  The walk of the reference's Text.
-/
import Derived.Test.YtfhkmmicdbblnaaDoorM8
import Derived.Laws.Concat
namespace Go.Proofs.YtfhkmmicdbblnaaDoor
set_option linter.unusedSimpArgs false
set_option linter.unusedVariables false
open Go.RowKit

theorem catB_app2 (xs ys : List ByteArray) : catB xs ++ catB ys = catB (xs ++ ys) := by
  unfold catB mkB
  rw [List.map_append, List.flatten_append, ByteArray.mk_append_mk]
theorem cat_size (xs ys : List ByteArray) : (catB (xs ++ ys)).size = (catB xs).size + (catB ys).size := by
  rw [← catB_len, catB_app, List.length_append, catB_len, catB_len]
theorem tx_part {ps : List (Pc ByteArray)} {k : Nat} {p : Pc ByteArray} (hx : ps[k]? = some p) : (catB (txL (ps.take k))).size + (catB (lineP p)).size ≤ (catB (txL ps)).size := by
  have e : txL ps = txL (ps.take k) ++ (lineP p ++ txL (ps.drop (k + 1))) := by
    rw [← List.append_assoc, ← txL_step hx]
    conv => lhs; rw [← List.take_append_drop (k + 1) ps]
    unfold txL
    rw [List.flatMap_append]
  rw [e, cat_size, cat_size]
  omega

set_option maxHeartbeats 4000000 in
set_option maxRecDepth 100000 in
theorem rtext_any (A : Option Addr) (c : Nat) (ps : List (Pc ByteArray)) (w : World) (h : RF w A c 4 (ps.map pcF)) (hsz : (catB (txL ps)).size ≤ 100000000) (hn : ∀ p ∈ ps, p.a.length ≤ 100000 ∧ p.b.length ≤ 100000) :
    Calls Tryd.prog 22 #[.slice A ps.length c] w (RetTB' w (txS ps) (freeP ps)) := by
  have h1 := h.1
  have h2 := h.2.1
  rw [List.length_map] at h1
  have HR := Lib.hid h
  have HSZ := Lib.hid hsz
  have HNN := Lib.hid hn
  have HC2 := Lib.hid (fun w => run_string_add_sum (P := Tryd.prog) (w := w))
  clear h hsz hn
  go_enter Tryd.func22, Tryd.ntmps22
  go_wp2_with fail
  go_loopw [4, 9] (fun s i wr => ∃ (k : Nat) (S : ByteArray), k ≤ ps.length ∧ i = .int .i64 k ∧ s = .string S ∧ Hid (S = catB (txL (ps.take k))) ∧ Hid (freeP (ps.take k) = true) ∧ Hid (Below w.heap.size w wr)) (fun _ i _ => ps.length - (intOf i).toNat)
  case atStart => exact ⟨0, _, Nat.zero_le _, rfl, rfl, Lib.hid rfl, Lib.hid rfl, Lib.hid (Below.refl _ _)⟩
  case round =>
    obtain ⟨k, S, hk, rfl, rfl, HS, HF, HB⟩ := hrel
    have hbs := HB.out.size
    by_cases hlt : k < ps.length
    · obtain ⟨⟨kd, O, P, Q⟩, hx⟩ : ∃ x, ps[k]? = some x := ⟨_, List.getElem?_eq_getElem hlt⟩
      obtain ⟨b, o, C1, n1, C2, n2, C3, n3, rfl, hb1, x0, x1, x2, x3, r1, r2, r3⟩ := (HR.out.below HB.out).piece hx
      simp only at x0 x1 x2 x3 r1 r2 r3
      have HT := Lib.hid (txL_step hx)
      have s1 := r1.1
      have s2 := r1.2.1
      have s3 := r2.1
      have s4 := r2.2.1
      have s5 := r3.1
      have s6 := r3.2.1
      have HFS := Lib.hid (free_step hx)
      have HPX := Lib.hid hx
      have HTP := Lib.hid (tx_part hx)
      have HN1 := Lib.hid (HNN.out _ (List.mem_of_getElem? hx))
      rw [HF.out] at HFS
      have HR2 := Lib.hid r2
      have HR3 := Lib.hid r3
      clear hx hb1 r1 r2 r3
      have HJ2 := Lib.hid (fun W h hl => join0_any C2 n2 P W h HN1.out.1 hl)
      have HJ3 := Lib.hid (fun W h hl => join0_any C3 n3 Q W h HN1.out.2 hl)
      by_cases k1 : kd = 1
      · subst k1
        have HFR : Hid (freeP (ps.take (k + 1)) = true) := Lib.hid (by rw [HFS.out]; rfl)
        have hsum : S.size + (catB P).size ≤ 100000000 := by rw [HS.out]; exact Nat.le_trans HTP.out HSZ.out
        have HSN : Hid (S ++ catB P = catB (txL (ps.take (k + 1)))) := Lib.hid (by rw [HT.out, HS.out, catB_app2]; rfl)
        replace HJ2 := Lib.hid (fun W h => HJ2.out W h (by omega))
        generalize catB P = SP at *
        go_wp2_with (go_at_call 15; refine (HJ2.out _ (HR2.out.below (below_alloc wr _))).mono ?_; rintro e w2 ⟨rfl, hb⟩; have HB2 := Lib.hid (go3 (HB.out.alloc hbs (.cells #[.int .i64 1, .slice C1 O.length n1, .slice C2 P.length n2, .slice C3 Q.length n3] 81)) hb); have hadd := HC2.out w2 S SP (by omega); clear hb)
        go_roundw
        case rel => exact ⟨k + 1, _, by omega, by go_num, rfl, HSN, HFR, HB2⟩
        case measure => simp [intOf]; omega
      · by_cases k2 : kd = 2
        · subst k2
          have HFR : Hid (freeP (ps.take (k + 1)) = true) := Lib.hid (by rw [HFS.out]; rfl)
          have hsum : S.size + (catB P).size ≤ 100000000 := by rw [HS.out]; exact Nat.le_trans HTP.out HSZ.out
          have HSN : Hid (S ++ catB P = catB (txL (ps.take (k + 1)))) := Lib.hid (by rw [HT.out, HS.out, catB_app2]; rfl)
          replace HJ2 := Lib.hid (fun W h => HJ2.out W h (by omega))
          generalize catB P = SP at *
          go_wp2_with (go_at_call 15; refine (HJ2.out _ (HR2.out.below (below_alloc wr _))).mono ?_; rintro e w2 ⟨rfl, hb⟩; have HB2 := Lib.hid (go3 (HB.out.alloc hbs (.cells #[.int .i64 2, .slice C1 O.length n1, .slice C2 P.length n2, .slice C3 Q.length n3] 81)) hb); have hadd := HC2.out w2 S SP (by omega); clear hb)
          go_roundw
          case rel => exact ⟨k + 1, _, by omega, by go_num, rfl, HSN, HFR, HB2⟩
          case measure => simp [intOf]; omega
        · by_cases k4 : kd = 4
          · subst k4
            have HFR : Hid (freeP (ps.take (k + 1)) = true) := Lib.hid (by rw [HFS.out]; rfl)
            have hsum : S.size + (catB P).size ≤ 100000000 := by rw [HS.out]; exact Nat.le_trans HTP.out HSZ.out
            have HSN : Hid (S ++ catB P = catB (txL (ps.take (k + 1)))) := Lib.hid (by rw [HT.out, HS.out, catB_app2]; rfl)
            replace HJ2 := Lib.hid (fun W h => HJ2.out W h (by omega))
            generalize catB P = SP at *
            go_wp2_with (go_at_call 15; refine (HJ2.out _ (HR2.out.below (below_alloc wr _))).mono ?_; rintro e w2 ⟨rfl, hb⟩; have HB2 := Lib.hid (go3 (HB.out.alloc hbs (.cells #[.int .i64 4, .slice C1 O.length n1, .slice C2 P.length n2, .slice C3 Q.length n3] 81)) hb); have hadd := HC2.out w2 S SP (by omega); clear hb)
            go_roundw
            case rel => exact ⟨k + 1, _, by omega, by go_num, rfl, HSN, HFR, HB2⟩
            case measure => simp [intOf]; omega
          · by_cases k3 : kd = 3
            · subst k3
              have HFR : Hid (freeP (ps.take (k + 1)) = true) := Lib.hid (by rw [HFS.out]; rfl)
              have hsum : S.size + (catB Q).size ≤ 100000000 := by rw [HS.out]; exact Nat.le_trans HTP.out HSZ.out
              have HSN : Hid (S ++ catB Q = catB (txL (ps.take (k + 1)))) := Lib.hid (by rw [HT.out, HS.out, catB_app2]; rfl)
              replace HJ3 := Lib.hid (fun W h => HJ3.out W h (by omega))
              generalize catB Q = SP at *
              go_wp2_with (go_at_call 15; refine (HJ3.out _ (HR3.out.below (below_alloc wr _))).mono ?_; rintro e w2 ⟨rfl, hb⟩; have HB2 := Lib.hid (go3 (HB.out.alloc hbs (.cells #[.int .i64 3, .slice C1 O.length n1, .slice C2 P.length n2, .slice C3 Q.length n3] 81)) hb); have hadd := HC2.out w2 S SP (by omega); clear hb)
              go_roundw
              case rel => exact ⟨k + 1, _, by omega, by go_num, rfl, HSN, HFR, HB2⟩
              case measure => simp [intOf]; omega
            · have HBAD := Lib.hid (free_miss HPX.out (by simp only; omega))
              have q1 : (kd == 1) = false := by simpa using k1
              have q2 : (kd == 2) = false := by simpa using k2
              have q3 : (kd == 3) = false := by simpa using k3
              have q4 : (kd == 4) = false := by simpa using k4
              clear HFS HPX k1 k2 k3 k4
              go_wp2_with fail
              go_ret2
              exact RetTB'.of ⟨rfl, HB.out.alloc hbs _⟩ (tx_bad HBAD.out) HBAD.out
    · obtain rfl : k = ps.length := by omega
      have hf := HF.out
      have hs := HS.out
      rw [List.take_length] at hf hs
      have HG := Lib.hid hf
      have HGS : Hid (txS ps = S) := Lib.hid (by rw [hs]; exact tx_good hf)
      clear hf hs HF HS
      go_wp2_with fail
      go_ret2
      exact RetTB'.of ⟨rfl, HB.out⟩ HGS.out HG.out
end Go.Proofs.YtfhkmmicdbblnaaDoor

