/-
  The walk of the reference's Order; paths in order.
-/
import Derived.Test.YteagecjhpfijjaaDoorV8
namespace Go.Proofs.YteagecjhpfijjaaDoor
set_option linter.unusedSimpArgs false
set_option linter.unusedVariables false
open Go.RowKit
open Pm

/-- how the reference orders two texts -/
def ordR (p q : ByteArray) : Int :=
  if pathOk p.data.toList = true then (if pathOk q.data.toList = true then ccmp (dat (compsB p)) (dat (compsB q)) else 1)
  else (if pathOk q.data.toList = true then -1 else Lib.compareBytes p.data.toList q.data.toList)
set_option maxHeartbeats 1000000 in
theorem order_any (p q : ByteArray) (w : World) (hp : p.size ≤ 1000000) (hq : q.size ≤ 1000000) (hm : ML w) :
    Calls Tryd.prog 47 #[.string p, .string q] w fun e w' => e = .returned (.int .i64 (ordR p q)) ∧ Below w.heap.size w w' := by
  have HM := Lib.hid hm
  have HE : Hid (ordR p q = ordR p q) := Lib.hid rfl
  unfold ordR at HE
  have HCB := Lib.hid (fun W => compareB_any p q W)
  have HCC := Lib.hid (fun A B c d W h k => rcompare_any A B c d (compsB p) (compsB q) W h k)
  cases h1 : pathOk p.data.toList with
  | true =>
    have HP1 := Lib.hid (fun W h => rpath_yes p W hp h h1)
    unfold RetTB RetT at HP1
    cases h2 : pathOk q.data.toList with
    | true =>
      have HP2 := Lib.hid (fun W h => rpath_yes q W hq h h2)
      unfold RetTB RetT at HP2
      have HN : Hid (ordR p q = ccmp (dat (compsB p)) (dat (compsB q))) := Lib.hid (by unfold ordR; rw [if_pos h1, if_pos h2])
      clear h1 h2 hm hp hq HE
      generalize compsB p = xs at *
      generalize compsB q = ys at *
      go_enter Tryd.func47, Tryd.ntmps47
      go_wp2_with (first
        | (go_at_call_of 54 (Value.string p); refine (HP1.out _ HM.out).mono ?_; rintro e w1 ⟨A1, c1, rfl, hrt, hb⟩; have HR1 := Lib.hid hrt; have HB1 := Lib.hid hb; have HM1 := Lib.hid (HM.out.below hb); clear hrt hb)
        | (go_at_call 54; refine (HP2.out _ HM1.out).mono ?_; rintro e w2 ⟨A2, c2, rfl, hrt, hb⟩; have HR2 := Lib.hid hrt; have HR12 := Lib.hid (HR1.out.below hb); have HB2 := Lib.hid (go3 HB1.out hb); clear hrt hb)
        | (go_at_call 56; refine (HCC.out _ _ _ _ _ HR12.out HR2.out).mono ?_; rintro e w3 ⟨rfl, hb⟩; have HB3 := Lib.hid (go3 HB2.out hb); clear hb))
      go_ret
      exact ⟨ret_int HN.out.symm, HB3.out⟩
    | false =>
      have HP2 := Lib.hid (fun W h => rpath_no q W hq h h2)
      unfold RetNB at HP2
      have HN : Hid (ordR p q = 1) := Lib.hid (by unfold ordR; rw [if_pos h1, if_neg (by simp [h2])])
      clear h1 h2 hm hp hq HE
      go_enter Tryd.func47, Tryd.ntmps47
      go_wp2_with (first
        | (go_at_call_of 54 (Value.string p); refine (HP1.out _ HM.out).mono ?_; rintro e w1 ⟨A1, c1, rfl, hrt, hb⟩; have HB1 := Lib.hid hb; have HM1 := Lib.hid (HM.out.below hb); clear hrt hb)
        | (go_at_call 54; refine (HP2.out _ HM1.out).mono ?_; rintro e w2 ⟨rfl, hb⟩; have HB2 := Lib.hid (go3 HB1.out hb); clear hb))
      go_ret
      exact ⟨ret_int HN.out.symm, HB2.out⟩
  | false =>
    have HP1 := Lib.hid (fun W h => rpath_no p W hp h h1)
    unfold RetNB at HP1
    cases h2 : pathOk q.data.toList with
    | true =>
      have HP2 := Lib.hid (fun W h => rpath_yes q W hq h h2)
      unfold RetTB RetT at HP2
      have HN : Hid (ordR p q = -1) := Lib.hid (by unfold ordR; rw [if_neg (by simp [h1]), if_pos h2])
      clear h1 h2 hm hp hq HE
      go_enter Tryd.func47, Tryd.ntmps47
      go_wp2_with (first
        | (go_at_call_of 54 (Value.string p); refine (HP1.out _ HM.out).mono ?_; rintro e w1 ⟨rfl, hb⟩; have HB1 := Lib.hid hb; have HM1 := Lib.hid (HM.out.below hb); clear hb)
        | (go_at_call 54; refine (HP2.out _ HM1.out).mono ?_; rintro e w2 ⟨A2, c2, rfl, hrt, hb⟩; have HB2 := Lib.hid (go3 HB1.out hb); clear hrt hb))
      go_ret
      exact ⟨ret_int HN.out.symm, HB2.out⟩
    | false =>
      have HP2 := Lib.hid (fun W h => rpath_no q W hq h h2)
      unfold RetNB at HP2
      have HN : Hid (ordR p q = Lib.compareBytes p.data.toList q.data.toList) := Lib.hid (by unfold ordR; rw [if_neg (by simp [h1]), if_neg (by simp [h2])])
      clear h1 h2 hm hp hq HE
      go_enter Tryd.func47, Tryd.ntmps47
      go_wp2_with (first
        | (go_at_call_of 54 (Value.string p); refine (HP1.out _ HM.out).mono ?_; rintro e w1 ⟨rfl, hb⟩; have HB1 := Lib.hid hb; have HM1 := Lib.hid (HM.out.below hb); clear hb)
        | (go_at_call 54; refine (HP2.out _ HM1.out).mono ?_; rintro e w2 ⟨rfl, hb⟩; have HB2 := Lib.hid (go3 HB1.out hb); clear hb)
        | (go_at_call 55; refine (HCB.out _).mono ?_; rintro e w' ⟨rfl, rfl⟩))
      go_ret
      exact ⟨ret_int HN.out.symm, HB2.out⟩
end Go.Proofs.YteagecjhpfijjaaDoor

