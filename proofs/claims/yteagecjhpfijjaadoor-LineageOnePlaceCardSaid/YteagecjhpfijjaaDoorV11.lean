/-
  The walk of the reference's moved.
-/
import Derived.Test.YteagecjhpfijjaaDoorV10
namespace Go.Proofs.YteagecjhpfijjaaDoor
set_option linter.unusedSimpArgs false
set_option linter.unusedVariables false
open Go.RowKit

set_option maxHeartbeats 4000000 in
set_option maxRecDepth 100000 in
theorem moved_any (n : Int) (S T : ByteArray) (A B : Option Addr) (c m d : Nat) (es : List Ed) (x : Ed) (w : World) (h : EV w A c es) (hl : es.length ≤ 100000) :
    Calls Tryd.prog 51 #[.agg #[.int .i64 n, .string S, .string T, .slice A es.length c, .slice B m d], aggE x] w fun e w' => e = .returned (.bool (movedB es x)) ∧ Below w.heap.size w w' := by
  have h1 := h.1
  have h2 := h.2.1
  rw [List.length_map] at h1
  have HR := Lib.hid h
  have HX := Lib.hid (BX.new (w.alloc (.cells #[.int .i64 n, .string S, .string T, .slice A es.length c, .slice B m d] 52)) (edV x) 63 (g := w.heap.size + 1) (by simp))
  have HMV : Hid (movedB es x = (decide (mvN es x = 1) || (x.act != 5 && x.act != 4))) := Lib.hid rfl
  clear h
  unfold aggE
  go_enter Tryd.func51, Tryd.ntmps51
  go_wp2_with fail
  go_loopw [5, 11] (fun s i wr => ∃ k : Nat, k ≤ es.length ∧ s = .int .i64 (mvN (es.take k) x : Nat) ∧ i = .int .i64 k ∧ Hid (Below ((w.alloc (.cells #[.int .i64 n, .string S, .string T, .slice A es.length c, .slice B m d] 52)).alloc (.cells (edV x).toArray 63)).heap.size ((w.alloc (.cells #[.int .i64 n, .string S, .string T, .slice A es.length c, .slice B m d] 52)).alloc (.cells (edV x).toArray 63)) wr)) (fun _ i _ => es.length - (intOf i).toNat)
  case atStart => exact ⟨0, Nat.zero_le _, rfl, rfl, Lib.hid (Below.refl _ _)⟩
  case round =>
    obtain ⟨k, hk, rfl, rfl, HB⟩ := hrel
    have HBW := Lib.hid (go3 (below_two w _ _) HB.out)
    obtain ⟨x0, x1, x2, x3, x4, x5, x6, x7, x8, x9, x10, x11⟩ := (HX.out.below HB.out).ed
    have hg := (HX.out.below HB.out).2.2
    have ng1 : ¬ w.heap.size + 1 = wr.heap.size := by omega
    have hcn := mvN_le (es.take k) x
    rw [List.length_take] at hcn
    by_cases hlt : k < es.length
    · obtain ⟨y, hy⟩ : ∃ y, es[k]? = some y := ⟨_, List.getElem?_eq_getElem hlt⟩
      obtain ⟨b, o', rfl, hb1, y0, y1, y2, y3, y4, y5, y6, y7, y8, y9, y10, y11⟩ := (HR.out.below HBW.out).at_ hy
      have HSN := Lib.hid (mvN_snoc (x := x) hy)
      have HQ : Hid (mvY x y = ((x.act == 5 && (y.act == 4 && decide (y.frm = x.path))) || (x.act == 4 && (y.act == 5 && decide (y.path = x.frm))))) := Lib.hid rfl
      clear hy hb1
      generalize mvN (es.take k) x = cnt at *
      cases a5 : (x.act == 5) with
      | true =>
        have a4 : (x.act == 4) = false := by
          have : x.act = 5 := by simpa using a5
          rw [this]; rfl
        cases b4 : (y.act == 4) with
        | true =>
          by_cases s1 : y.frm = x.path
          · have HN : Hid (mvN (es.take (k + 1)) x = cnt + 1) := Lib.hid (by rw [HSN.out, HQ.out, a5, b4, decide_eq_true s1]; rfl)
            have e1 := str_eqt s1
            clear s1 HSN HQ
            go_wp2_with fail
            go_roundw
            case rel => exact ⟨k + 1, by omega, (by rw [HN.out]; go_num), by go_num, Lib.hid (HB.out.alloc HB.out.size _)⟩
            case measure => simp [intOf]; omega
          · have HN : Hid (mvN (es.take (k + 1)) x = cnt) := Lib.hid (by rw [HSN.out, HQ.out, a5, a4, b4, decide_eq_false s1]; rfl)
            have e1 := str_eqb s1
            clear s1 HSN HQ
            go_wp2_with fail
            go_roundw
            case rel => exact ⟨k + 1, by omega, (by rw [HN.out]), by go_num, Lib.hid (HB.out.alloc HB.out.size _)⟩
            case measure => simp [intOf]; omega
        | false =>
          have HN : Hid (mvN (es.take (k + 1)) x = cnt) := Lib.hid (by rw [HSN.out, HQ.out, a5, a4, b4]; rfl)
          clear HSN HQ
          go_wp2_with fail
          go_roundw
          case rel => exact ⟨k + 1, by omega, (by rw [HN.out]), by go_num, Lib.hid (HB.out.alloc HB.out.size _)⟩
          case measure => simp [intOf]; omega
      | false =>
        cases a4 : (x.act == 4) with
        | true =>
          cases b5 : (y.act == 5) with
          | true =>
            by_cases s1 : y.path = x.frm
            · have HN : Hid (mvN (es.take (k + 1)) x = cnt + 1) := Lib.hid (by rw [HSN.out, HQ.out, a5, a4, b5, decide_eq_true s1]; rfl)
              have e1 := str_eqt s1
              clear s1 HSN HQ
              go_wp2_with fail
              go_roundw
              case rel => exact ⟨k + 1, by omega, (by rw [HN.out]; go_num), by go_num, Lib.hid (HB.out.alloc HB.out.size _)⟩
              case measure => simp [intOf]; omega
            · have HN : Hid (mvN (es.take (k + 1)) x = cnt) := Lib.hid (by rw [HSN.out, HQ.out, a5, a4, b5, decide_eq_false s1]; rfl)
              have e1 := str_eqb s1
              clear s1 HSN HQ
              go_wp2_with fail
              go_roundw
              case rel => exact ⟨k + 1, by omega, (by rw [HN.out]), by go_num, Lib.hid (HB.out.alloc HB.out.size _)⟩
              case measure => simp [intOf]; omega
          | false =>
            have HN : Hid (mvN (es.take (k + 1)) x = cnt) := Lib.hid (by rw [HSN.out, HQ.out, a5, a4, b5]; rfl)
            clear HSN HQ
            go_wp2_with fail
            go_roundw
            case rel => exact ⟨k + 1, by omega, (by rw [HN.out]), by go_num, Lib.hid (HB.out.alloc HB.out.size _)⟩
            case measure => simp [intOf]; omega
        | false =>
          have HN : Hid (mvN (es.take (k + 1)) x = cnt) := Lib.hid (by rw [HSN.out, HQ.out, a5, a4]; rfl)
          clear HSN HQ
          go_wp2_with fail
          go_roundw
          case rel => exact ⟨k + 1, by omega, (by rw [HN.out]), by go_num, Lib.hid (HB.out.alloc HB.out.size _)⟩
          case measure => simp [intOf]; omega
    · obtain rfl : k = es.length := by omega
      rw [List.take_length] at *
      replace HB := HBW
      have HMV2 := HMV
      generalize mvN es x = cnt at *
      by_cases hc : cnt = 1
      · have HM : Hid (movedB es x = true) := Lib.hid (by rw [HMV.out, decide_eq_true hc]; rfl)
        subst hc
        clear HMV HMV2
        go_wp2_with fail
        go_ret
        exact ⟨ret_bool HM.out.symm, HB.out⟩
      · have bc : ((cnt : Int) == 1) = false := by rw [beq_eq_false_iff_ne]; omega
        cases a5 : (x.act != 5) with
        | true =>
          cases a4 : (x.act != 4) with
          | true =>
            have HM : Hid (movedB es x = true) := Lib.hid (by rw [HMV.out, a5, a4]; simp)
            clear HMV HMV2 hc
            go_wp2_with fail
            go_ret
            exact ⟨ret_bool HM.out.symm, HB.out⟩
          | false =>
            have HM : Hid (movedB es x = false) := Lib.hid (by rw [HMV.out, a5, a4, decide_eq_false hc]; rfl)
            clear HMV HMV2 hc
            go_wp2_with fail
            go_ret
            exact ⟨ret_bool HM.out.symm, HB.out⟩
        | false =>
          have HM : Hid (movedB es x = false) := Lib.hid (by rw [HMV.out, a5, decide_eq_false hc]; rfl)
          clear HMV HMV2 hc
          go_wp2_with fail
          go_ret
          exact ⟨ret_bool HM.out.symm, HB.out⟩
end Go.Proofs.YteagecjhpfijjaaDoor

