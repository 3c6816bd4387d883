/-
  The walks of the reference's Capture and Match; the two matches are one.
-/
import Derived.Test.YtidjmbmnfnnleaaDoorQ5
namespace Go.Proofs.YtidjmbmnfnnleaaDoor
set_option linter.unusedSimpArgs false
set_option linter.unusedVariables false
open Go.RowKit
open Pm

theorem rpath_ret (s : ByteArray) (w : World) (hs : s.size ≤ 1000000) (hm : ML w) :
    Calls Tryd.prog 56 #[.string s] w (RetC w (compsB s) (pathOk s.data.toList)) := by
  cases hv : pathOk s.data.toList with
  | true => exact (rpath_yes s w hs hm hv).mono fun e w' h => ⟨fun _ => h, fun k => (by cases k)⟩
  | false => exact (rpath_no s w hs hm hv).mono fun e w' h => ⟨fun k => (by cases k), fun _ => h⟩

/-- what Capture hands back -/
def cutB (x q : ByteArray) : ByteArray := x.extract 0 (x.size - q.size)
def cpCap (p x : ByteArray) : ByteArray := if starOk p = true then (if Lib.hasSuffix x.data.toList (sufB p).data.toList = true then cutB x (sufB p) else ⟨#[]⟩) else ⟨#[]⟩
def cpOk (p x : ByteArray) : Bool := if starOk p = true then (Lib.hasSuffix x.data.toList (sufB p).data.toList && comp (cutB x (sufB p)).data.toList) else decide (p = x)
theorem suffix_len {a b : List UInt8} (h : Lib.hasSuffix a b = true) : b.length ≤ a.length := by
  unfold Lib.hasSuffix at h
  rw [List.isSuffixOf_iff_suffix] at h
  exact h.length_le

set_option maxHeartbeats 1000000 in
theorem rcapture_any (p x : ByteArray) (w : World) (hp : p.size ≤ 9223372036854775807) (hx : x.size ≤ 9223372036854775807) :
    Calls Tryd.prog 52 #[.string p, .string x] w fun e w' => e = .returned (.tuple #[.string (cpCap p x), .bool (cpOk p x)]) ∧ w = w' := by
  cases hst : starOk p with
  | false =>
    have HC : Hid (cpCap p x = ⟨#[]⟩) := Lib.hid (by unfold cpCap; rw [hst]; rfl)
    have HO : Hid ((p.toList == x.toList) = cpOk p x) := Lib.hid (by unfold cpOk; rw [hst, text_eqB]; rfl)
    go_enter Tryd.func52, Tryd.ntmps52
    go_wp2_with (go_at_call 51; refine (rstar_any _ _ hp).mono ?_; rintro e w' ⟨rfl, rfl⟩)
    go_ret2
    exact ⟨ret_sb HC.out.symm HO.out, rfl⟩
  | true =>
    have HC : Hid (cpCap p x = if Lib.hasSuffix x.data.toList (sufB p).data.toList = true then cutB x (sufB p) else ⟨#[]⟩) := Lib.hid (by unfold cpCap; rw [if_pos hst])
    have HO : Hid (cpOk p x = (Lib.hasSuffix x.data.toList (sufB p).data.toList && comp (cutB x (sufB p)).data.toList)) := Lib.hid (by unfold cpOk; rw [if_pos hst])
    cases hsx : Lib.hasSuffix x.data.toList (sufB p).data.toList with
    | false =>
      rw [hsx] at HC HO
      go_enter Tryd.func52, Tryd.ntmps52
      go_wp2_with (first
        | (go_at_call 51; refine (rstar_any _ _ hp).mono ?_; rintro e w' ⟨rfl, rfl⟩)
        | (go_at_call 76; refine (hasSuffix_any _ _ _ hx).mono ?_; rintro e w' ⟨rfl, rfl⟩))
      go_ret2
      exact ⟨ret_sb HC.out.symm HO.out.symm, rfl⟩
    | true =>
      rw [hsx] at HC HO
      have hql := suffix_len hsx
      rw [← Lib.size_eq, ← Lib.size_eq] at hql
      have hps := piece_size x 0 (x.size - (sufB p).size)
      have HCO := Lib.hid (rcomponent_any (cutB x (sufB p)) w (by unfold cutB; omega))
      have HCU : Hid (cutB x (sufB p) = x.extract 0 (x.size - (sufB p).size)) := Lib.hid rfl
      rw [HCU.out] at HCO
      go_enter Tryd.func52, Tryd.ntmps52
      go_wp2_with (first
        | (go_at_call 51; refine (rstar_any _ _ hp).mono ?_; rintro e w' ⟨rfl, rfl⟩)
        | (go_at_call 76; refine (hasSuffix_any _ _ _ hx).mono ?_; rintro e w' ⟨rfl, rfl⟩)
        | (go_at_call 59; refine HCO.out.mono ?_; rintro e w' ⟨rfl, rfl⟩))
      go_ret2
      exact ⟨ret_sb (by rw [HC.out]; rfl) (by rw [HO.out, HCU.out, piece_eq]; simp), rfl⟩

set_option maxHeartbeats 4000000 in
theorem rmatch_any (A : Option Addr) (c : Nat) (xs : List ByteArray) (r : Bool) (s : ByteArray) (w : World) (h : RT w A c xs) (hsz : ∀ x ∈ xs, x.size ≤ 9223372036854775807) (hs : s.size ≤ 5000) (hm : ML w) :
    Calls Tryd.prog 36 #[.agg #[.slice A xs.length c, .bool r], .string s] w (RetC w (capsB starOk cpCap xs r s) (matchOk cpOk xs r s)) := by
  have h1 := h.1
  have h2 := h.2.1
  have HX := Lib.hid h
  have HM := Lib.hid hm
  have HCK := Lib.hid (fun A c W (h : RT W A c xs) => rcheck_any A c xs r W h hsz)
  have HSP := Lib.hid (fun W hW => rpath_ret s W (by omega) hW)
  have HCS := Lib.hid (compsB_size s)
  have hcl := compsB_len s
  have HXZ := Lib.hid hsz
  clear h hm hsz
  cases hv : pathOk s.data.toList with
  | false =>
    have HO : Hid (matchOk cpOk xs r s = false) := Lib.hid (by unfold matchOk; rw [hv]; rfl)
    rw [HO.out]
    have hckc : (checkP xs r != 0) = true ∨ (checkP xs r != 0) = false := by cases (checkP xs r != 0) <;> simp
    generalize checkP xs r = n at *
    rcases hckc with hckB | hckB <;>
    · go_enter Tryd.func36, Tryd.ntmps36
      go_wp2_with (first
        | (go_at_call 56; refine (HSP.out _ (HM.out.below (below_alloc _ _))).mono ?_; rintro e w1 hret; obtain ⟨rfl, hb⟩ := hret.2 hv; have P1 := Lib.hid ((PX.new w (.slice A xs.length c) (.bool r) _).below hb); obtain ⟨p1, p2, p3, p4, p5⟩ := P1.out; have HB1 := Lib.hid ((below_alloc w _).trans (hb.mono (below_alloc w _).size)); clear hb hret)
        | (go_at_call 41; refine (HCK.out _ _ _ (HX.out.below HB1.out)).mono ?_; rintro e w2 ⟨rfl, hb2⟩; obtain ⟨q1, q2, q3, q4, q5⟩ := P1.out.below hb2))
      go_ret2
      exact ⟨fun h => (by cases h), fun _ => ⟨rfl, HB1.out.trans (hb2.mono HB1.out.size)⟩⟩
  | true =>
    by_cases hck : checkP xs r = 0
    · have hckB : (checkP xs r != 0) = false := by rw [hck]; rfl
      cases hln : lensOk xs.length (compsB s).length r with
      | false =>
        have HO : Hid (matchOk cpOk xs r s = false) := Lib.hid (by unfold matchOk; rw [hv, hck, hln]; rfl)
        rw [HO.out]
        generalize checkP xs r = n at *
        by_cases hlt : (compsB s).length < xs.length
        · generalize compsB s = cs at *
          go_enter Tryd.func36, Tryd.ntmps36
          go_wp2_with (first
            | (go_at_call 56; refine (HSP.out _ (HM.out.below (below_alloc _ _))).mono ?_; rintro e w1 hret; obtain ⟨B, d, rfl, hr, hb⟩ := hret.1 hv; have P1 := Lib.hid ((PX.new w (.slice A xs.length c) (.bool r) _).below hb); obtain ⟨p1, p2, p3, p4, p5⟩ := P1.out; have HB1 := Lib.hid ((below_alloc w _).trans (hb.mono (below_alloc w _).size)); clear hb hret)
            | (go_at_call 41; refine (HCK.out _ _ _ (HX.out.below HB1.out)).mono ?_; rintro e w2 ⟨rfl, hb2⟩; obtain ⟨q1, q2, q3, q4, q5⟩ := P1.out.below hb2))
          go_ret2
          exact ⟨fun h => (by cases h), fun _ => ⟨rfl, HB1.out.trans (hb2.mono HB1.out.size)⟩⟩
        · have hltB : decide ((compsB s).length < xs.length) = false := decide_eq_false hlt
          cases r with
          | false =>
            have hrB : decide (xs.length < (compsB s).length) = true := by
              unfold lensOk at hln
              rw [hltB, Bool.not_false, Bool.true_and] at hln
              revert hln
              cases decide (xs.length < (compsB s).length) <;> simp
            clear hlt
            generalize compsB s = cs at *
            go_enter Tryd.func36, Tryd.ntmps36
            go_wp2_with (first
              | (go_at_call 56; refine (HSP.out _ (HM.out.below (below_alloc _ _))).mono ?_; rintro e w1 hret; obtain ⟨B, d, rfl, hr, hb⟩ := hret.1 hv; have P1 := Lib.hid ((PX.new w (.slice A xs.length c) _ _).below hb); obtain ⟨p1, p2, p3, p4, p5⟩ := P1.out; have HB1 := Lib.hid ((below_alloc w _).trans (hb.mono (below_alloc w _).size)); clear hb hret)
              | (go_at_call 41; refine (HCK.out _ _ _ (HX.out.below HB1.out)).mono ?_; rintro e w2 ⟨rfl, hb2⟩; obtain ⟨q1, q2, q3, q4, q5⟩ := P1.out.below hb2))
            go_ret2
            exact ⟨fun h => (by cases h), fun _ => ⟨rfl, HB1.out.trans (hb2.mono HB1.out.size)⟩⟩
          | true =>
            have hrB : (((compsB s).length : Int) == (xs.length : Int)) = true := by
              unfold lensOk at hln
              rw [hltB, Bool.not_false, Bool.true_and] at hln
              have hge : ¬ xs.length < (compsB s).length := fun h => by
                rw [decide_eq_true h] at hln
                cases hln
              rw [beq_iff_eq]
              omega
            clear hlt
            generalize compsB s = cs at *
            go_enter Tryd.func36, Tryd.ntmps36
            go_wp2_with (first
              | (go_at_call 56; refine (HSP.out _ (HM.out.below (below_alloc _ _))).mono ?_; rintro e w1 hret; obtain ⟨B, d, rfl, hr, hb⟩ := hret.1 hv; have P1 := Lib.hid ((PX.new w (.slice A xs.length c) _ _).below hb); obtain ⟨p1, p2, p3, p4, p5⟩ := P1.out; have HB1 := Lib.hid ((below_alloc w _).trans (hb.mono (below_alloc w _).size)); clear hb hret)
              | (go_at_call 41; refine (HCK.out _ _ _ (HX.out.below HB1.out)).mono ?_; rintro e w2 ⟨rfl, hb2⟩; obtain ⟨q1, q2, q3, q4, q5⟩ := P1.out.below hb2))
            go_ret2
            exact ⟨fun h => (by cases h), fun _ => ⟨rfl, HB1.out.trans (hb2.mono HB1.out.size)⟩⟩
      | true =>
        obtain ⟨hnm, hr1, hr2⟩ := lens_lo hln
        have HL := Lib.hid hln
        have HCZ := Lib.hid (check_zero hck)
        have hx0 := HCZ.out.1
        have hx12 := HCZ.out.2.1
        have hltB : decide ((compsB s).length < xs.length) = false := decide_eq_false (by omega)
        have hrB : decide (xs.length < (compsB s).length) = r := by
          cases r with
          | true => exact decide_eq_true (hr1 rfl)
          | false => exact decide_eq_false (by have := hr2 rfl; omega)
        have HRB := Lib.hid hrB
        have hneB : r = true → ((((compsB s).length : Int) == (xs.length : Int)) = false) := fun e => by
          have := hr1 e
          rw [beq_eq_false_iff_ne]
          omega
        have HNE := Lib.hid hneB
        clear hneB
        have HMO : Hid (matchOk cpOk xs r s = okOf cpOk (xs.zip (compsB s))) := Lib.hid (by unfold matchOk; rw [hv, hck, hln]; rfl)
        have HCB : Hid (capsB starOk cpCap xs r s = capsOf starOk cpCap (xs.zip (compsB s)) ++ restL xs r s) := Lib.hid rfl
        have HRL : Hid (restL xs r s = if r = true then [joinT ((compsB s).drop xs.length)] else []) := Lib.hid rfl
        have HJS := Lib.hid (join_small hs xs.length)
        have hzl : (xs.zip (compsB s)).length = xs.length := by rw [List.length_zip]; omega
        have HZL := Lib.hid hzl
        rw [HMO.out, HCB.out, HRL.out]
        clear hln hzl hck hr1 hr2
        generalize checkP xs r = n at *
        generalize compsB s = cs at *
        cases r with
        | false =>
          simp only [Bool.false_eq_true, if_false, List.append_nil]
          go_enter Tryd.func36, Tryd.ntmps36
          go_wp2_with (first
            | (go_at_call 56; refine (HSP.out _ (HM.out.below (below_alloc _ _))).mono ?_; rintro e w1 hret; obtain ⟨B, d, rfl, hr, hb⟩ := hret.1 hv; have P1 := Lib.hid ((PX.new w (.slice A xs.length c) _ _).below hb); obtain ⟨p1, p2, p3, p4, p5⟩ := P1.out; have HB1 := Lib.hid ((below_alloc w _).trans (hb.mono (below_alloc w _).size)); clear hb hret)
            | (go_at_call 41; refine (HCK.out _ _ _ (HX.out.below HB1.out)).mono ?_; rintro e w2 ⟨rfl, hb2⟩; have P2 := Lib.hid (P1.out.below hb2); obtain ⟨q1, q2, q3, q4, q5⟩ := P2.out))
          have HB2 := Lib.hid (HB1.out.trans (hb2.mono HB1.out.size))
          have HCR := Lib.hid (hr.below hb2)
          have hd1 := hr.1
          have hd2 := hr.2.1
          clear hr hb2
          go_loopw [9, 61] (fun cv i wr => ∃ k : Nat, k ≤ xs.length ∧ i = .int .i64 k ∧ Hid (OT wr w2.heap.size cv (capsOf starOk cpCap ((xs.zip cs).take k))) ∧ Hid (okOf cpOk ((xs.zip cs).take k) = true) ∧ Hid (Below w2.heap.size w2 wr)) (fun _ i _ => xs.length - (intOf i).toNat)
          case atStart => exact ⟨0, Nat.zero_le _, rfl, Lib.hid (OT.nil _ _), Lib.hid rfl, Lib.hid (Below.refl _ _)⟩
          case round =>
            obtain ⟨k, hk, rfl, HO, HOK, HBL⟩ := hrel
            obtain ⟨z1, z2, z3, z4, z5⟩ := P2.out.below HBL.out
            have HBW := Lib.hid (HB2.out.trans (HBL.out.mono HB2.out.size))
            by_cases hlt : k < xs.length
            · obtain ⟨x, hx⟩ : ∃ x, xs[k]? = some x := ⟨_, List.getElem?_eq_getElem hlt⟩
              obtain ⟨y, hy⟩ : ∃ y, cs[k]? = some y := ⟨_, List.getElem?_eq_getElem (by omega)⟩
              obtain ⟨b1, o1, rfl, hb1, hc1⟩ := (HX.out.below HBW.out).2.2 (by omega)
              obtain ⟨b2, o2, rfl, hb2, hc2⟩ := (HCR.out.below HBL.out).2.2 (by omega)
              have hcx := hc1 k x hx
              have hcy := hc2 k y hy
              have hyz := HCS.out y (List.mem_of_getElem? hy)
              have hxz := HXZ.out x (List.mem_of_getElem? hx)
              have HZ := Lib.hid (zip_get hx hy)
              clear hc1 hc2 hx hy hb1 hb2
              cases hmo : cpOk x y with
              | false =>
                have HM2 := Lib.hid (ok_miss (g := cpOk) HZ.out hmo)
                rw [HM2.out]
                go_wp2_with (go_at_call 52; refine (rcapture_any x y _ (by omega) (by omega)).mono ?_; rintro e w' ⟨rfl, rfl⟩)
                go_ret2
                exact ⟨fun h => (by cases h), fun _ => ⟨rfl, HBW.out⟩⟩
              | true =>
                have HM2 := Lib.hid (ok_step HZ.out HOK.out hmo)
                have hstep := caps_step (st := starOk) (f := cpCap) HZ.out
                cases hst : starOk x with
                | false =>
                  rw [hst] at hstep
                  simp only [Bool.false_eq_true, if_false, List.append_nil] at hstep
                  have HN := Lib.hid hstep
                  clear hstep
                  go_wp2_with (first
                    | (go_at_call 52; refine (rcapture_any x y _ (by omega) (by omega)).mono ?_; rintro e w' ⟨rfl, rfl⟩)
                    | (go_at_call 51; refine (rstar_any x _ (by omega)).mono ?_; rintro e w' ⟨rfl, rfl⟩))
                  go_roundw
                  case rel => exact ⟨k + 1, by omega, by go_num, Lib.hid (by rw [HN.out]; exact HO.out), HM2, HBL⟩
                  case measure => simp [intOf]; omega
                | true =>
                  rw [hst] at hstep
                  simp only [if_true] at hstep
                  have HN := Lib.hid hstep
                  clear hstep
                  have hcl2 : (capsOf starOk cpCap ((xs.zip cs).take k)).length + [cpCap x y].length ≤ 1000000 := by
                    have := caps_len starOk cpCap ((xs.zip cs).take k)
                    rw [List.length_take] at this
                    simp only [List.length_singleton]
                    omega
                  have HCL := Lib.hid hcl2
                  have hsz2 := HBL.out.size
                  clear hcl2
                  go_wp2_with (first
                    | (go_at_call 52; refine (rcapture_any x y _ (by omega) (by omega)).mono ?_; rintro e w' ⟨rfl, rfl⟩)
                    | (go_at_call 51; refine (rstar_any x _ (by omega)).mono ?_; rintro e w' ⟨rfl, rfl⟩)
                    | (at_builtin; refine wpList_append_texts rfl _ _ rfl w2.heap.size _ _ [cpCap x y] _ 1 rfl rfl (HO.out.below (below_alloc _ _)) (RT.one _ _ _) HCL.out (by simp; omega) ?_; intro v1 w3 hown hg _; have HBL2 := Lib.hid ((HBL.out.alloc HBL.out.size _).grown hg (by simp; omega) HO.out.own); have HOW := Lib.hid hown; clear hown hg))
                  go_roundw
                  case rel => exact ⟨k + 1, by omega, by go_num, Lib.hid (by rw [HN.out]; exact HOW.out), HM2, HBL2⟩
                  case measure => simp [intOf]; omega
            · have HOK2 : Hid (okOf cpOk (xs.zip cs) = true) := Lib.hid (by
                have := HOK.out
                rwa [List.take_of_length_le (by have := HZL.out; omega)] at this)
              have HO2 : Hid (OT wr w2.heap.size u9 (capsOf starOk cpCap (xs.zip cs))) := Lib.hid (by
                have := HO.out
                rwa [List.take_of_length_le (by have := HZL.out; omega)] at this)
              obtain ⟨C, cc, rfl, hrt⟩ := HO2.out.read
              go_wp2_with fail
              go_ret2
              exact ⟨fun _ => ⟨_, _, rfl, hrt, HBW.out⟩, fun h => absurd (HOK2.out.symm.trans h) (by decide)⟩
        | true =>
          simp only [if_true]
          have hneB := HNE.out rfl
          go_enter Tryd.func36, Tryd.ntmps36
          go_wp2_with (first
            | (go_at_call 56; refine (HSP.out _ (HM.out.below (below_alloc _ _))).mono ?_; rintro e w1 hret; obtain ⟨B, d, rfl, hr, hb⟩ := hret.1 hv; have P1 := Lib.hid ((PX.new w (.slice A xs.length c) _ _).below hb); obtain ⟨p1, p2, p3, p4, p5⟩ := P1.out; have HB1 := Lib.hid ((below_alloc w _).trans (hb.mono (below_alloc w _).size)); clear hb hret)
            | (go_at_call 41; refine (HCK.out _ _ _ (HX.out.below HB1.out)).mono ?_; rintro e w2 ⟨rfl, hb2⟩; have P2 := Lib.hid (P1.out.below hb2); obtain ⟨q1, q2, q3, q4, q5⟩ := P2.out))
          have HB2 := Lib.hid (HB1.out.trans (hb2.mono HB1.out.size))
          have HCR := Lib.hid (hr.below hb2)
          have hd1 := hr.1
          have hd2 := hr.2.1
          clear hr hb2
          go_loopw [9, 61] (fun cv i wr => ∃ k : Nat, k ≤ xs.length ∧ i = .int .i64 k ∧ Hid (OT wr w2.heap.size cv (capsOf starOk cpCap ((xs.zip cs).take k))) ∧ Hid (okOf cpOk ((xs.zip cs).take k) = true) ∧ Hid (Below w2.heap.size w2 wr)) (fun _ i _ => xs.length - (intOf i).toNat)
          case atStart => exact ⟨0, Nat.zero_le _, rfl, Lib.hid (OT.nil _ _), Lib.hid rfl, Lib.hid (Below.refl _ _)⟩
          case round =>
            obtain ⟨k, hk, rfl, HO, HOK, HBL⟩ := hrel
            obtain ⟨z1, z2, z3, z4, z5⟩ := P2.out.below HBL.out
            have HBW := Lib.hid (HB2.out.trans (HBL.out.mono HB2.out.size))
            by_cases hlt : k < xs.length
            · obtain ⟨x, hx⟩ : ∃ x, xs[k]? = some x := ⟨_, List.getElem?_eq_getElem hlt⟩
              obtain ⟨y, hy⟩ : ∃ y, cs[k]? = some y := ⟨_, List.getElem?_eq_getElem (by omega)⟩
              obtain ⟨b1, o1, rfl, hb1, hc1⟩ := (HX.out.below HBW.out).2.2 (by omega)
              obtain ⟨b2, o2, rfl, hb2, hc2⟩ := (HCR.out.below HBL.out).2.2 (by omega)
              have hcx := hc1 k x hx
              have hcy := hc2 k y hy
              have hyz := HCS.out y (List.mem_of_getElem? hy)
              have hxz := HXZ.out x (List.mem_of_getElem? hx)
              have HZ := Lib.hid (zip_get hx hy)
              clear hc1 hc2 hx hy hb1 hb2
              cases hmo : cpOk x y with
              | false =>
                have HM2 := Lib.hid (ok_miss (g := cpOk) HZ.out hmo)
                rw [HM2.out]
                go_wp2_with (go_at_call 52; refine (rcapture_any x y _ (by omega) (by omega)).mono ?_; rintro e w' ⟨rfl, rfl⟩)
                go_ret2
                exact ⟨fun h => (by cases h), fun _ => ⟨rfl, HBW.out⟩⟩
              | true =>
                have HM2 := Lib.hid (ok_step HZ.out HOK.out hmo)
                have hstep := caps_step (st := starOk) (f := cpCap) HZ.out
                cases hst : starOk x with
                | false =>
                  rw [hst] at hstep
                  simp only [Bool.false_eq_true, if_false, List.append_nil] at hstep
                  have HN := Lib.hid hstep
                  clear hstep
                  go_wp2_with (first
                    | (go_at_call 52; refine (rcapture_any x y _ (by omega) (by omega)).mono ?_; rintro e w' ⟨rfl, rfl⟩)
                    | (go_at_call 51; refine (rstar_any x _ (by omega)).mono ?_; rintro e w' ⟨rfl, rfl⟩))
                  go_roundw
                  case rel => exact ⟨k + 1, by omega, by go_num, Lib.hid (by rw [HN.out]; exact HO.out), HM2, HBL⟩
                  case measure => simp [intOf]; omega
                | true =>
                  rw [hst] at hstep
                  simp only [if_true] at hstep
                  have HN := Lib.hid hstep
                  clear hstep
                  have hcl2 : (capsOf starOk cpCap ((xs.zip cs).take k)).length + [cpCap x y].length ≤ 1000000 := by
                    have := caps_len starOk cpCap ((xs.zip cs).take k)
                    rw [List.length_take] at this
                    simp only [List.length_singleton]
                    omega
                  have HCL := Lib.hid hcl2
                  have hsz2 := HBL.out.size
                  clear hcl2
                  go_wp2_with (first
                    | (go_at_call 52; refine (rcapture_any x y _ (by omega) (by omega)).mono ?_; rintro e w' ⟨rfl, rfl⟩)
                    | (go_at_call 51; refine (rstar_any x _ (by omega)).mono ?_; rintro e w' ⟨rfl, rfl⟩)
                    | (at_builtin; refine wpList_append_texts rfl _ _ rfl w2.heap.size _ _ [cpCap x y] _ 1 rfl rfl (HO.out.below (below_alloc _ _)) (RT.one _ _ _) HCL.out (by simp; omega) ?_; intro v1 w3 hown hg _; have HBL2 := Lib.hid ((HBL.out.alloc HBL.out.size _).grown hg (by simp; omega) HO.out.own); have HOW := Lib.hid hown; clear hown hg))
                  go_roundw
                  case rel => exact ⟨k + 1, by omega, by go_num, Lib.hid (by rw [HN.out]; exact HOW.out), HM2, HBL2⟩
                  case measure => simp [intOf]; omega
            · have HOK2 : Hid (okOf cpOk (xs.zip cs) = true) := Lib.hid (by
                have := HOK.out
                rwa [List.take_of_length_le (by have := HZL.out; omega)] at this)
              have HO2 : Hid (OT wr w2.heap.size u9 (capsOf starOk cpCap (xs.zip cs))) := Lib.hid (by
                have := HO.out
                rwa [List.take_of_length_le (by have := HZL.out; omega)] at this)
              have hlt2 : xs.length < cs.length := of_decide_eq_true HRB.out
              obtain ⟨b2, o2, rfl, hb2, hc2⟩ := (HCR.out.below HBL.out).2.2 (by omega)
              clear hb2 hc2
              have hjl : (cs.drop xs.length).length = cs.length - xs.length := List.length_drop
              have hj := join_any (some ⟨b2, o2 + xs.length, none⟩) (d - xs.length) (cs.drop xs.length) ⟨#[47]⟩ wr ((HCR.out.below HBL.out).drop xs.length (by omega)) (by rw [hjl]; omega) HJS.out
              rw [hjl] at hj
              have HJ : Hid (Calls Tryd.prog 57 #[.slice (some ⟨b2, o2 + xs.length, none⟩) (cs.length - xs.length) (d - xs.length), .string ⟨#[47]⟩] wr fun e w' => e = .returned (.string (joinT (cs.drop xs.length))) ∧ Below wr.heap.size wr w') := Lib.hid hj
              clear hj hjl
              have hcl2 : (capsOf starOk cpCap (xs.zip cs)).length + [joinT (cs.drop xs.length)].length ≤ 1000000 := by
                have := caps_len starOk cpCap (xs.zip cs)
                have := HZL.out
                simp only [List.length_singleton]
                omega
              have HCL := Lib.hid hcl2
              have hsz2 := HBL.out.size
              clear hcl2
              generalize joinT (cs.drop xs.length) = jt at *
              go_wp2_with (first
                | (go_at_call 57; refine HJ.out.mono ?_; rintro e w4 ⟨rfl, hb4⟩; have hs4 := hb4.size; have HBL4 := Lib.hid (HBL.out.trans (hb4.mono HBL.out.size)); have HO4 := Lib.hid (HO2.out.below hb4); clear hb4)
                | (at_builtin; refine wpList_append_texts rfl _ _ rfl w2.heap.size _ _ [jt] _ 1 rfl rfl (HO4.out.below (below_alloc _ _)) (RT.one _ _ _) HCL.out (by simp; omega) ?_; intro v1 w3 hown hg _; have HBL2 := Lib.hid ((HBL4.out.alloc HBL4.out.size _).grown hg (by simp; omega) HO4.out.own); have HOW := Lib.hid hown; clear hown hg; obtain ⟨C, cc, rfl, hrt⟩ := HOW.out.read; have HRT := Lib.hid hrt; clear hrt))
              go_ret2
              exact ⟨fun _ => ⟨C, cc, by rw [List.length_append]; rfl, HRT.out, HB2.out.trans (HBL2.out.mono HB2.out.size)⟩, fun h => absurd (HOK2.out.symm.trans h) (by decide)⟩
    · have hckB : (checkP xs r != 0) = true := by rw [bne_iff_ne]; exact hck
      have HO : Hid (matchOk cpOk xs r s = false) := Lib.hid (by unfold matchOk; rw [hv, beq_eq_false_iff_ne.2 hck]; rfl)
      rw [HO.out]
      generalize checkP xs r = n at *
      go_enter Tryd.func36, Tryd.ntmps36
      go_wp2_with (first
        | (go_at_call 56; refine (HSP.out _ (HM.out.below (below_alloc _ _))).mono ?_; rintro e w1 hret; obtain ⟨B, d, rfl, hr, hb⟩ := hret.1 hv; have P1 := Lib.hid ((PX.new w (.slice A xs.length c) (.bool r) _).below hb); obtain ⟨p1, p2, p3, p4, p5⟩ := P1.out; have HB1 := Lib.hid ((below_alloc w _).trans (hb.mono (below_alloc w _).size)); clear hb hret)
        | (go_at_call 41; refine (HCK.out _ _ _ (HX.out.below HB1.out)).mono ?_; rintro e w2 ⟨rfl, hb2⟩; obtain ⟨q1, q2, q3, q4, q5⟩ := P1.out.below hb2))
      go_ret2
      exact ⟨fun h => (by cases h), fun _ => ⟨rfl, HB1.out.trans (hb2.mono HB1.out.size)⟩⟩

theorem cut_data (x q : ByteArray) : (cutB x q).data.toList = x.data.toList.take (x.size - q.size) := by
  unfold cutB
  rw [piece_eq]
  simp
theorem comp_42 {x : ByteArray} (h : comp x.data.toList = true) : stB x = false := by
  unfold stB Lib.hasPrefix
  revert h
  generalize x.data.toList = l
  intro h
  cases l with
  | nil => cases h
  | cons c r =>
    rw [Bool.eq_false_iff]
    intro k
    simp only [List.isPrefixOf, Bool.and_true, beq_iff_eq] at k
    subst k
    simp [comp] at h
    have := h.1
    revert this
    decide
theorem star_agree {p : ByteArray} (h : partB p = true) : starOk p = stB p := by
  unfold partB at h
  cases hs : starOk p with
  | true =>
    unfold starOk at hs
    rw [Bool.and_eq_true] at hs
    exact hs.1.symm
  | false =>
    rw [hs, Bool.false_or] at h
    exact (comp_42 h).symm
theorem comp_prefix {l : List UInt8} (h : comp l = true) (n : Nat) : comp (l.take n) = !(l.take n).isEmpty := by
  cases l with
  | nil => cases h
  | cons c r =>
    cases n with
    | zero => rfl
    | succ n =>
      simp only [List.take_succ_cons, List.isEmpty_cons, Bool.not_false]
      simp only [comp, Bool.and_eq_true] at h ⊢
      refine ⟨h.1, ?_⟩
      rw [List.all_eq_true] at h ⊢
      intro x hx
      refine h.2 x ?_
      rcases List.mem_cons.1 hx with rfl | hx
      · exact List.mem_cons_self ..
      · exact List.mem_cons_of_mem _ (List.mem_of_mem_take hx)
theorem part_agree {p x : ByteArray} (hp : partB p = true) (hx : comp x.data.toList = true) : mpOk p x = cpOk p x ∧ (stB p = true → mpOk p x = true → mpCap p x = cpCap p x) := by
  have hst := star_agree hp
  cases h : stB p with
  | false =>
    refine ⟨?_, fun k => by cases k⟩
    unfold mpOk cpOk
    rw [hst, h]
    rfl
  | true =>
    rw [h] at hst
    have hsu : sufB p = tlB p := by unfold sufB; rw [if_pos hst]
    unfold mpOk cpOk mpCap cpCap
    rw [if_pos h, if_pos hst, if_pos h, if_pos hst, hsu]
    by_cases hb : Lib.hasSuffix x.data.toList (tlB p).data.toList = true
    · have ht : Lib.trimSuffix x.data.toList (tlB p).data.toList = (cutB x (tlB p)).data.toList := by
        unfold Lib.trimSuffix
        rw [if_pos hb, cut_data, Lib.size_eq, Lib.size_eq]
      rw [ht, hb]
      refine ⟨?_, fun _ _ => ?_⟩
      · rw [Bool.true_and, Bool.true_and, cut_data]
        exact (comp_prefix hx _).symm
      · rw [mkB_back, if_pos rfl]
    · rw [Bool.not_eq_true] at hb
      rw [hb]
      refine ⟨by rw [Bool.false_and, Bool.false_and], fun _ k => ?_⟩
      rw [Bool.false_and] at k
      exact absurd k (by decide)
theorem lists_agree : ∀ (zs : List (ByteArray × ByteArray)), (∀ z ∈ zs, partB z.1 = true ∧ comp z.2.data.toList = true) →
    okOf mpOk zs = okOf cpOk zs ∧ (okOf mpOk zs = true → capsOf stB mpCap zs = capsOf starOk cpCap zs)
  | [], _ => ⟨rfl, fun _ => rfl⟩
  | z :: zs, h => by
    have ih := lists_agree zs fun y hy => h y (List.mem_cons_of_mem _ hy)
    have hz := h z (List.mem_cons_self ..)
    have hp := part_agree hz.1 hz.2
    have hs := star_agree hz.1
    refine ⟨?_, fun k => ?_⟩
    · show (mpOk z.1 z.2 && okOf mpOk zs) = (cpOk z.1 z.2 && okOf cpOk zs)
      rw [hp.1, ih.1]
    · have k' : (mpOk z.1 z.2 && okOf mpOk zs) = true := k
      rw [Bool.and_eq_true] at k'
      have e := ih.2 k'.2
      unfold capsOf at e ⊢
      rw [List.filter_cons, List.filter_cons, hs]
      split
      · rename_i hst
        rw [List.map_cons, List.map_cons, e, hp.2 hst k'.1]
      · exact e
theorem parts_all {xs : List ByteArray} (h : partsOk xs = true) : ∀ x ∈ xs, partB x = true := by
  cases xs with
  | nil => cases h
  | cons y r =>
    unfold partsOk at h
    rw [Bool.and_eq_true, List.all_eq_true] at h
    intro x hx
    rcases List.mem_cons.1 hx with rfl | hx
    · unfold partB; rw [h.1, Bool.or_true]
    · exact h.2 x hx
theorem path_comps {s : ByteArray} (h : pathOk s.data.toList = true) : ∀ x ∈ compsB s, comp x.data.toList = true := by
  have h1 := ((pathOk_iff s).1 h).1
  unfold dirOk at h1
  rw [Bool.and_eq_true, comps_all, List.all_eq_true] at h1
  exact h1.2
/-- the two matches are one -/
theorem match_agree (xs : List ByteArray) (r : Bool) (s : ByteArray) :
    matchOk mpOk xs r s = matchOk cpOk xs r s ∧ (matchOk mpOk xs r s = true → capsB stB mpCap xs r s = capsB starOk cpCap xs r s) := by
  unfold matchOk capsB
  cases hv : pathOk s.data.toList with
  | false =>
    refine ⟨by simp, fun h => ?_⟩
    simp at h
  | true =>
    cases hc : (checkP xs r == 0) with
    | false =>
      refine ⟨by simp, fun h => ?_⟩
      simp at h
    | true =>
      have hz := check_zero (beq_iff_eq.1 hc)
      have hl := lists_agree (xs.zip (compsB s)) (fun z hz' => ⟨parts_all hz.2.2 _ (List.of_mem_zip (show (z.1, z.2) ∈ _ from hz')).1, path_comps hv _ (List.of_mem_zip (show (z.1, z.2) ∈ _ from hz')).2⟩)
      refine ⟨by rw [hl.1], fun h => ?_⟩
      simp only [Bool.true_and, Bool.and_eq_true] at h
      rw [hl.2 h.2]
end Go.Proofs.YtidjmbmnfnnleaaDoor

