/-
  The walk of Match.
-/
import Derived.Test.YtidjmbmnfnnleaaDoorQ4
namespace Go.Proofs.YtidjmbmnfnnleaaDoor
set_option linter.unusedSimpArgs false
set_option linter.unusedVariables false
open Go.RowKit
open Pm

theorem lens_lo {n m : Nat} {r : Bool} (h : lensOk n m r = true) : n ≤ m ∧ (r = true → n < m) ∧ (r = false → n = m) := by
  unfold lensOk at h
  rw [Bool.and_eq_true, Bool.not_eq_true', decide_eq_false_iff_not, beq_iff_eq] at h
  refine ⟨by omega, fun e => ?_, fun e => ?_⟩
  · rw [e] at h
    exact of_decide_eq_true h.2
  · rw [e] at h
    have := of_decide_eq_false h.2
    omega

theorem check_zero {xs : List ByteArray} {r : Bool} (h : checkP xs r = 0) : 0 < xs.length ∧ xs.length ≤ 12 ∧ partsOk xs = true := by
  unfold checkP at h
  split at h
  · cases h
  · split at h
    · cases h
    · split at h
      · cases h
      · rename_i h1 h2 h3
        refine ⟨by omega, by omega, ?_⟩
        cases hp : partsOk xs with
        | true => rfl
        | false => exact absurd hp h2
theorem caps_len (st : ByteArray → Bool) (f : ByteArray → ByteArray → ByteArray) (zs : List (ByteArray × ByteArray)) : (capsOf st f zs).length ≤ zs.length := by
  unfold capsOf
  rw [List.length_map]
  exact List.length_filter_le _ _

set_option maxHeartbeats 4000000 in
theorem match_any (A : Option Addr) (c : Nat) (xs : List ByteArray) (r : Bool) (s : ByteArray) (w : World) (h : RT w A c xs) (hsz : ∀ x ∈ xs, x.size ≤ 9223372036854775807) (hs : s.size ≤ 5000) (hm : ML w) :
    Calls Tryd.prog 54 #[.agg #[.slice A xs.length c, .bool r], .string s] w (RetC w (capsB stB mpCap xs r s) (matchOk mpOk xs r s)) := by
  have h1 := h.1
  have h2 := h.2.1
  have HX := Lib.hid h
  have HM := Lib.hid hm
  have HCK := Lib.hid (fun A c W (h : RT W A c xs) => check_any A c xs r W h hsz)
  have HSP := Lib.hid (fun W hW => split_ret s W (by omega) hW)
  have HCS := Lib.hid (compsB_size s)
  have hcl := compsB_len s
  clear h hm hsz
  cases hv : pathOk s.data.toList with
  | false =>
    have HO : Hid (matchOk mpOk xs r s = false) := Lib.hid (by unfold matchOk; rw [hv]; rfl)
    rw [HO.out]
    go_enter Tryd.func54, Tryd.ntmps54
    go_wp2_with (go_at_call 77; refine (HSP.out _ (HM.out.below (below_alloc _ _))).mono ?_; rintro e w1 hret; obtain ⟨rfl, hb⟩ := hret.2 hv)
    go_ret2
    exact ⟨fun h => (by cases h), fun _ => ⟨rfl, (below_alloc w _).trans (hb.mono (below_alloc w _).size)⟩⟩
  | true =>
    by_cases hck : checkP xs r = 0
    · have hckB : (checkP xs r != 0) = false := by rw [hck]; rfl
      cases hln : lensOk xs.length (compsB s).length r with
      | false =>
        have HO : Hid (matchOk mpOk xs r s = false) := Lib.hid (by unfold matchOk; rw [hv, hck, hln]; rfl)
        rw [HO.out]
        generalize checkP xs r = n at *
        by_cases hlt : (compsB s).length < xs.length
        · generalize compsB s = cs at *
          go_enter Tryd.func54, Tryd.ntmps54
          go_wp2_with (first
            | (go_at_call 77; refine (HSP.out _ (HM.out.below (below_alloc _ _))).mono ?_; rintro e w1 hret; obtain ⟨B, d, rfl, hr, hb⟩ := hret.1 hv; have P1 := Lib.hid ((PX.new w (.slice A xs.length c) (.bool r) _).below hb); obtain ⟨p1, p2, p3, p4, p5⟩ := P1.out; have HB1 := Lib.hid ((below_alloc w _).trans (hb.mono (below_alloc w _).size)); clear hb hret)
            | (go_at_call 43; refine (HCK.out _ _ _ (HX.out.below HB1.out)).mono ?_; rintro e w2 ⟨rfl, hb2⟩; obtain ⟨q1, q2, q3, q4, q5⟩ := P1.out.below hb2))
          go_ret2
          exact ⟨fun h => (by cases h), fun _ => ⟨rfl, HB1.out.trans (hb2.mono HB1.out.size)⟩⟩
        · have hltB : decide ((compsB s).length < xs.length) = false := decide_eq_false hlt
          have hrB : decide (xs.length < (compsB s).length) = !r := by
            unfold lensOk at hln
            rw [hltB, Bool.not_false, Bool.true_and] at hln
            revert hln
            cases decide (xs.length < (compsB s).length) <;> cases r <;> simp
          have HRB := Lib.hid hrB
          clear hlt
          generalize compsB s = cs at *
          go_enter Tryd.func54, Tryd.ntmps54
          go_wp2_with (first
            | (go_at_call 77; refine (HSP.out _ (HM.out.below (below_alloc _ _))).mono ?_; rintro e w1 hret; obtain ⟨B, d, rfl, hr, hb⟩ := hret.1 hv; have P1 := Lib.hid ((PX.new w (.slice A xs.length c) (.bool r) _).below hb); obtain ⟨p1, p2, p3, p4, p5⟩ := P1.out; have HB1 := Lib.hid ((below_alloc w _).trans (hb.mono (below_alloc w _).size)); clear hb hret)
            | (go_at_call 43; refine (HCK.out _ _ _ (HX.out.below HB1.out)).mono ?_; rintro e w2 ⟨rfl, hb2⟩; obtain ⟨q1, q2, q3, q4, q5⟩ := P1.out.below hb2))
          go_ret2
          exact ⟨fun h => (by cases h), fun _ => ⟨rfl, HB1.out.trans (hb2.mono HB1.out.size)⟩⟩
      | true =>
        obtain ⟨hnm, hr1, hr2⟩ := lens_lo hln
        have HL := Lib.hid hln
        have HCZ := Lib.hid (check_zero hck)
        have hx0 := HCZ.out.1
        have hx12 := HCZ.out.2.1
        have hltB : decide ((compsB s).length < xs.length) = false := decide_eq_false (by omega)
        have hrB : decide (xs.length < (compsB s).length) = r := by
          cases r with
          | true => exact decide_eq_true (hr1 rfl)
          | false => exact decide_eq_false (by have := hr2 rfl; omega)
        have HRB := Lib.hid hrB
        have HMO : Hid (matchOk mpOk xs r s = okOf mpOk (xs.zip (compsB s))) := Lib.hid (by unfold matchOk; rw [hv, hck, hln]; rfl)
        have HCB : Hid (capsB stB mpCap xs r s = capsOf stB mpCap (xs.zip (compsB s)) ++ restL xs r s) := Lib.hid rfl
        have HRL : Hid (restL xs r s = if r = true then [joinT ((compsB s).drop xs.length)] else []) := Lib.hid rfl
        have HJS := Lib.hid (join_small hs xs.length)
        have hzl : (xs.zip (compsB s)).length = xs.length := by rw [List.length_zip]; omega
        have HZL := Lib.hid hzl
        rw [HMO.out, HCB.out, HRL.out]
        clear hln hzl hck hr1 hr2
        generalize checkP xs r = n at *
        generalize compsB s = cs at *
        cases r with
        | false =>
          simp only [Bool.false_eq_true, if_false, List.append_nil]
          go_enter Tryd.func54, Tryd.ntmps54
          go_wp2_with (first
            | (go_at_call 77; refine (HSP.out _ (HM.out.below (below_alloc _ _))).mono ?_; rintro e w1 hret; obtain ⟨B, d, rfl, hr, hb⟩ := hret.1 hv; have P1 := Lib.hid ((PX.new w (.slice A xs.length c) _ _).below hb); obtain ⟨p1, p2, p3, p4, p5⟩ := P1.out; have HB1 := Lib.hid ((below_alloc w _).trans (hb.mono (below_alloc w _).size)); clear hb hret)
            | (go_at_call 43; refine (HCK.out _ _ _ (HX.out.below HB1.out)).mono ?_; rintro e w2 ⟨rfl, hb2⟩; have P2 := Lib.hid (P1.out.below hb2); obtain ⟨q1, q2, q3, q4, q5⟩ := P2.out))
          have HB2 := Lib.hid (HB1.out.trans (hb2.mono HB1.out.size))
          have HCR := Lib.hid (hr.below hb2)
          have hd1 := hr.1
          have hd2 := hr.2.1
          clear hr hb2
          go_loopw [9, 45] (fun cv i wr => ∃ k : Nat, k ≤ xs.length ∧ i = .int .i64 k ∧ Hid (OT wr w2.heap.size cv (capsOf stB mpCap ((xs.zip cs).take k))) ∧ Hid (okOf mpOk ((xs.zip cs).take k) = true) ∧ Hid (Below w2.heap.size w2 wr)) (fun _ i _ => xs.length - (intOf i).toNat)
          case atStart => exact ⟨0, Nat.zero_le _, rfl, Lib.hid (OT.nil _ _), Lib.hid rfl, Lib.hid (Below.refl _ _)⟩
          case round =>
            obtain ⟨k, hk, rfl, HO, HOK, HBL⟩ := hrel
            obtain ⟨z1, z2, z3, z4, z5⟩ := P2.out.below HBL.out
            have HBW := Lib.hid (HB2.out.trans (HBL.out.mono HB2.out.size))
            by_cases hlt : k < xs.length
            · obtain ⟨x, hx⟩ : ∃ x, xs[k]? = some x := ⟨_, List.getElem?_eq_getElem hlt⟩
              obtain ⟨y, hy⟩ : ∃ y, cs[k]? = some y := ⟨_, List.getElem?_eq_getElem (by omega)⟩
              obtain ⟨b1, o1, rfl, hb1, hc1⟩ := (HX.out.below HBW.out).2.2 (by omega)
              obtain ⟨b2, o2, rfl, hb2, hc2⟩ := (HCR.out.below HBL.out).2.2 (by omega)
              have hcx := hc1 k x hx
              have hcy := hc2 k y hy
              have hyz := HCS.out y (List.mem_of_getElem? hy)
              have HZ := Lib.hid (zip_get hx hy)
              clear hc1 hc2 hx hy hb1 hb2
              cases hmo : mpOk x y with
              | false =>
                have HM2 := Lib.hid (ok_miss (g := mpOk) HZ.out hmo)
                rw [HM2.out]
                go_wp2_with (go_at_call 78; refine (matchPart_any x y _ (by omega)).mono ?_; rintro e w' ⟨rfl, rfl⟩)
                go_ret2
                exact ⟨fun h => (by cases h), fun _ => ⟨rfl, HBW.out⟩⟩
              | true =>
                have HM2 := Lib.hid (ok_step HZ.out HOK.out hmo)
                have hstep := caps_step (st := stB) (f := mpCap) HZ.out
                cases hst : stB x with
                | false =>
                  rw [hst] at hstep
                  simp only [Bool.false_eq_true, if_false, List.append_nil] at hstep
                  have HN := Lib.hid hstep
                  clear hstep
                  go_wp2_with (first
                    | (go_at_call 78; refine (matchPart_any x y _ (by omega)).mono ?_; rintro e w' ⟨rfl, rfl⟩)
                    | (go_at_call 63; refine (isStar_any x _).mono ?_; rintro e w' ⟨rfl, rfl⟩))
                  go_roundw
                  case rel => exact ⟨k + 1, by omega, by go_num, Lib.hid (by rw [HN.out]; exact HO.out), HM2, HBL⟩
                  case measure => simp [intOf]; omega
                | true =>
                  rw [hst] at hstep
                  simp only [if_true] at hstep
                  have HN := Lib.hid hstep
                  clear hstep
                  have hcl2 : (capsOf stB mpCap ((xs.zip cs).take k)).length + [mpCap x y].length ≤ 1000000 := by
                    have := caps_len stB mpCap ((xs.zip cs).take k)
                    rw [List.length_take] at this
                    simp only [List.length_singleton]
                    omega
                  have HCL := Lib.hid hcl2
                  have hsz2 := HBL.out.size
                  clear hcl2
                  go_wp2_with (first
                    | (go_at_call 78; refine (matchPart_any x y _ (by omega)).mono ?_; rintro e w' ⟨rfl, rfl⟩)
                    | (go_at_call 63; refine (isStar_any x _).mono ?_; rintro e w' ⟨rfl, rfl⟩)
                    | (at_builtin; refine wpList_append_texts rfl _ _ rfl w2.heap.size _ _ [mpCap x y] _ 1 rfl rfl (HO.out.below (below_alloc _ _)) (RT.one _ _ _) HCL.out (by simp; omega) ?_; intro v1 w3 hown hg _; have HBL2 := Lib.hid ((HBL.out.alloc HBL.out.size _).grown hg (by simp; omega) HO.out.own); have HOW := Lib.hid hown; clear hown hg))
                  go_roundw
                  case rel => exact ⟨k + 1, by omega, by go_num, Lib.hid (by rw [HN.out]; exact HOW.out), HM2, HBL2⟩
                  case measure => simp [intOf]; omega
            · have HOK2 : Hid (okOf mpOk (xs.zip cs) = true) := Lib.hid (by
                have := HOK.out
                rwa [List.take_of_length_le (by have := HZL.out; omega)] at this)
              have HO2 : Hid (OT wr w2.heap.size u9 (capsOf stB mpCap (xs.zip cs))) := Lib.hid (by
                have := HO.out
                rwa [List.take_of_length_le (by have := HZL.out; omega)] at this)
              obtain ⟨C, cc, rfl, hrt⟩ := HO2.out.read
              go_wp2_with fail
              go_ret2
              exact ⟨fun _ => ⟨_, _, rfl, hrt, HBW.out⟩, fun h => absurd (HOK2.out.symm.trans h) (by decide)⟩
        | true =>
          simp only [if_true]
          go_enter Tryd.func54, Tryd.ntmps54
          go_wp2_with (first
            | (go_at_call 77; refine (HSP.out _ (HM.out.below (below_alloc _ _))).mono ?_; rintro e w1 hret; obtain ⟨B, d, rfl, hr, hb⟩ := hret.1 hv; have P1 := Lib.hid ((PX.new w (.slice A xs.length c) _ _).below hb); obtain ⟨p1, p2, p3, p4, p5⟩ := P1.out; have HB1 := Lib.hid ((below_alloc w _).trans (hb.mono (below_alloc w _).size)); clear hb hret)
            | (go_at_call 43; refine (HCK.out _ _ _ (HX.out.below HB1.out)).mono ?_; rintro e w2 ⟨rfl, hb2⟩; have P2 := Lib.hid (P1.out.below hb2); obtain ⟨q1, q2, q3, q4, q5⟩ := P2.out))
          have HB2 := Lib.hid (HB1.out.trans (hb2.mono HB1.out.size))
          have HCR := Lib.hid (hr.below hb2)
          have hd1 := hr.1
          have hd2 := hr.2.1
          clear hr hb2
          go_loopw [9, 45] (fun cv i wr => ∃ k : Nat, k ≤ xs.length ∧ i = .int .i64 k ∧ Hid (OT wr w2.heap.size cv (capsOf stB mpCap ((xs.zip cs).take k))) ∧ Hid (okOf mpOk ((xs.zip cs).take k) = true) ∧ Hid (Below w2.heap.size w2 wr)) (fun _ i _ => xs.length - (intOf i).toNat)
          case atStart => exact ⟨0, Nat.zero_le _, rfl, Lib.hid (OT.nil _ _), Lib.hid rfl, Lib.hid (Below.refl _ _)⟩
          case round =>
            obtain ⟨k, hk, rfl, HO, HOK, HBL⟩ := hrel
            obtain ⟨z1, z2, z3, z4, z5⟩ := P2.out.below HBL.out
            have HBW := Lib.hid (HB2.out.trans (HBL.out.mono HB2.out.size))
            by_cases hlt : k < xs.length
            · obtain ⟨x, hx⟩ : ∃ x, xs[k]? = some x := ⟨_, List.getElem?_eq_getElem hlt⟩
              obtain ⟨y, hy⟩ : ∃ y, cs[k]? = some y := ⟨_, List.getElem?_eq_getElem (by omega)⟩
              obtain ⟨b1, o1, rfl, hb1, hc1⟩ := (HX.out.below HBW.out).2.2 (by omega)
              obtain ⟨b2, o2, rfl, hb2, hc2⟩ := (HCR.out.below HBL.out).2.2 (by omega)
              have hcx := hc1 k x hx
              have hcy := hc2 k y hy
              have hyz := HCS.out y (List.mem_of_getElem? hy)
              have HZ := Lib.hid (zip_get hx hy)
              clear hc1 hc2 hx hy hb1 hb2
              cases hmo : mpOk x y with
              | false =>
                have HM2 := Lib.hid (ok_miss (g := mpOk) HZ.out hmo)
                rw [HM2.out]
                go_wp2_with (go_at_call 78; refine (matchPart_any x y _ (by omega)).mono ?_; rintro e w' ⟨rfl, rfl⟩)
                go_ret2
                exact ⟨fun h => (by cases h), fun _ => ⟨rfl, HBW.out⟩⟩
              | true =>
                have HM2 := Lib.hid (ok_step HZ.out HOK.out hmo)
                have hstep := caps_step (st := stB) (f := mpCap) HZ.out
                cases hst : stB x with
                | false =>
                  rw [hst] at hstep
                  simp only [Bool.false_eq_true, if_false, List.append_nil] at hstep
                  have HN := Lib.hid hstep
                  clear hstep
                  go_wp2_with (first
                    | (go_at_call 78; refine (matchPart_any x y _ (by omega)).mono ?_; rintro e w' ⟨rfl, rfl⟩)
                    | (go_at_call 63; refine (isStar_any x _).mono ?_; rintro e w' ⟨rfl, rfl⟩))
                  go_roundw
                  case rel => exact ⟨k + 1, by omega, by go_num, Lib.hid (by rw [HN.out]; exact HO.out), HM2, HBL⟩
                  case measure => simp [intOf]; omega
                | true =>
                  rw [hst] at hstep
                  simp only [if_true] at hstep
                  have HN := Lib.hid hstep
                  clear hstep
                  have hcl2 : (capsOf stB mpCap ((xs.zip cs).take k)).length + [mpCap x y].length ≤ 1000000 := by
                    have := caps_len stB mpCap ((xs.zip cs).take k)
                    rw [List.length_take] at this
                    simp only [List.length_singleton]
                    omega
                  have HCL := Lib.hid hcl2
                  have hsz2 := HBL.out.size
                  clear hcl2
                  go_wp2_with (first
                    | (go_at_call 78; refine (matchPart_any x y _ (by omega)).mono ?_; rintro e w' ⟨rfl, rfl⟩)
                    | (go_at_call 63; refine (isStar_any x _).mono ?_; rintro e w' ⟨rfl, rfl⟩)
                    | (at_builtin; refine wpList_append_texts rfl _ _ rfl w2.heap.size _ _ [mpCap x y] _ 1 rfl rfl (HO.out.below (below_alloc _ _)) (RT.one _ _ _) HCL.out (by simp; omega) ?_; intro v1 w3 hown hg _; have HBL2 := Lib.hid ((HBL.out.alloc HBL.out.size _).grown hg (by simp; omega) HO.out.own); have HOW := Lib.hid hown; clear hown hg))
                  go_roundw
                  case rel => exact ⟨k + 1, by omega, by go_num, Lib.hid (by rw [HN.out]; exact HOW.out), HM2, HBL2⟩
                  case measure => simp [intOf]; omega
            · have HOK2 : Hid (okOf mpOk (xs.zip cs) = true) := Lib.hid (by
                have := HOK.out
                rwa [List.take_of_length_le (by have := HZL.out; omega)] at this)
              have HO2 : Hid (OT wr w2.heap.size u9 (capsOf stB mpCap (xs.zip cs))) := Lib.hid (by
                have := HO.out
                rwa [List.take_of_length_le (by have := HZL.out; omega)] at this)
              have hlt2 : xs.length < cs.length := of_decide_eq_true HRB.out
              obtain ⟨b2, o2, rfl, hb2, hc2⟩ := (HCR.out.below HBL.out).2.2 (by omega)
              clear hb2 hc2
              have hjl : (cs.drop xs.length).length = cs.length - xs.length := List.length_drop
              have hj := join_any (some ⟨b2, o2 + xs.length, none⟩) (d - xs.length) (cs.drop xs.length) ⟨#[47]⟩ wr ((HCR.out.below HBL.out).drop xs.length (by omega)) (by rw [hjl]; omega) HJS.out
              rw [hjl] at hj
              have HJ : Hid (Calls Tryd.prog 57 #[.slice (some ⟨b2, o2 + xs.length, none⟩) (cs.length - xs.length) (d - xs.length), .string ⟨#[47]⟩] wr fun e w' => e = .returned (.string (joinT (cs.drop xs.length))) ∧ Below wr.heap.size wr w') := Lib.hid hj
              clear hj hjl
              have hcl2 : (capsOf stB mpCap (xs.zip cs)).length + [joinT (cs.drop xs.length)].length ≤ 1000000 := by
                have := caps_len stB mpCap (xs.zip cs)
                have := HZL.out
                simp only [List.length_singleton]
                omega
              have HCL := Lib.hid hcl2
              have hsz2 := HBL.out.size
              clear hcl2
              generalize joinT (cs.drop xs.length) = jt at *
              go_wp2_with (first
                | (go_at_call 57; refine HJ.out.mono ?_; rintro e w4 ⟨rfl, hb4⟩; have hs4 := hb4.size; have HBL4 := Lib.hid (HBL.out.trans (hb4.mono HBL.out.size)); have HO4 := Lib.hid (HO2.out.below hb4); clear hb4)
                | (at_builtin; refine wpList_append_texts rfl _ _ rfl w2.heap.size _ _ [jt] _ 1 rfl rfl (HO4.out.below (below_alloc _ _)) (RT.one _ _ _) HCL.out (by simp; omega) ?_; intro v1 w3 hown hg _; have HBL2 := Lib.hid ((HBL4.out.alloc HBL4.out.size _).grown hg (by simp; omega) HO4.out.own); have HOW := Lib.hid hown; clear hown hg; obtain ⟨C, cc, rfl, hrt⟩ := HOW.out.read; have HRT := Lib.hid hrt; clear hrt))
              go_ret2
              exact ⟨fun _ => ⟨C, cc, by rw [List.length_append]; rfl, HRT.out, HB2.out.trans (HBL2.out.mono HB2.out.size)⟩, fun h => absurd (HOK2.out.symm.trans h) (by decide)⟩
    · have hckB : (checkP xs r != 0) = true := by rw [bne_iff_ne]; exact hck
      have HO : Hid (matchOk mpOk xs r s = false) := Lib.hid (by unfold matchOk; rw [hv, beq_eq_false_iff_ne.2 hck]; rfl)
      rw [HO.out]
      generalize checkP xs r = n at *
      go_enter Tryd.func54, Tryd.ntmps54
      go_wp2_with (first
        | (go_at_call 77; refine (HSP.out _ (HM.out.below (below_alloc _ _))).mono ?_; rintro e w1 hret; obtain ⟨B, d, rfl, hr, hb⟩ := hret.1 hv; have P1 := Lib.hid ((PX.new w (.slice A xs.length c) (.bool r) _).below hb); obtain ⟨p1, p2, p3, p4, p5⟩ := P1.out; have HB1 := Lib.hid ((below_alloc w _).trans (hb.mono (below_alloc w _).size)); clear hb hret)
        | (go_at_call 43; refine (HCK.out _ _ _ (HX.out.below HB1.out)).mono ?_; rintro e w2 ⟨rfl, hb2⟩; obtain ⟨q1, q2, q3, q4, q5⟩ := P1.out.below hb2))
      go_ret2
      exact ⟨fun h => (by cases h), fun _ => ⟨rfl, HB1.out.trans (hb2.mono HB1.out.size)⟩⟩
end Go.Proofs.YtidjmbmnfnnleaaDoor

