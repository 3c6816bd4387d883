/-
  RuleMaps returns true.
-/
import Derived.Test.YtidjmbmnfnnleaaDoorR4
namespace Go.Proofs.YtidjmbmnfnnleaaDoor
set_option linter.unusedSimpArgs false
set_option linter.unusedVariables false
open Go.RowKit
open Pm

set_option maxHeartbeats 4000000 in
theorem ruleMaps_any (ex : Bool) (A : Option Addr) (c : Nat) (xs : List ByteArray) (r : Bool) (B : Option Addr) (d : Nat) (ys : List ByteArray) (t : Bool) (s : ByteArray) (W : World) (h : RT W A c xs) (hz : ∀ x ∈ xs, x.size ≤ maxLen) (hg : ∀ x ∈ xs, x.size ≤ reachBytes) (k : RT W B d ys) (kz : ∀ x ∈ ys, x.size ≤ maxLen) (kg : ∀ x ∈ ys, x.size ≤ reachBytes) (hs : s.size ≤ maxLen) (hsh : W.ShapedOpen Tryd.prog) :
    Calls Tryd.prog 3 #[ruV ex A c xs r B d ys t, .string s] W fun e w' => e = .returned (.bool true) ∧ Below W.heap.size W w' := by
  unfold maxLen at hz kz hs
  have HI := PR.enter h k (ML.of hsh) ex r t 26
  have HFIT := Lib.hid (fun w h k m => fit_any ex A B c d xs ys r t w h k m hg kg)
  have hx1 := h.1
  have hx2 := h.2.1
  have hy1 := k.1
  have hy2 := k.2.1
  cases hf : fitB xs ys with
  | false =>
    rw [hf] at HFIT
    unfold ruV at *
    clear hsh h hz hg k kz kg hf
    go_enter Tryd.func3, Tryd.ntmps3
    go_wp2_with (first
      | (go_at_call 14; refine (HFIT.out _ (PR.x (HI.go (by repeat (first | exact Below.refl _ _ | apply Below.drew | apply below_drewN | apply below_al)))) (PR.y (HI.go (by repeat (first | exact Below.refl _ _ | apply Below.drew | apply below_drewN | apply below_al)))) (PR.m (HI.go (by repeat (first | exact Below.refl _ _ | apply Below.drew | apply below_drewN | apply below_al))))).mono ?_; rintro e w1 ⟨rfl, hb⟩; replace HI := HI.go2 (by repeat (first | exact Below.refl _ _ | apply Below.drew | apply below_drewN | apply below_al)) hb; clear hb)
      | (go_at_call 15; refine (rawake_any _ (PR.m (HI.go (by repeat (first | exact Below.refl _ _ | apply Below.drew | apply below_drewN | apply below_al))))).mono ?_; rintro e w8 ⟨rfl, hb⟩; replace HI := HI.go2 (by repeat (first | exact Below.refl _ _ | apply Below.drew | apply below_drewN | apply below_al)) hb; clear hb))
    go_ret
    exact ⟨rfl, PR.b (HI.go (by repeat (first | exact Below.refl _ _ | apply Below.drew | apply below_drewN | apply below_al)))⟩
  | true =>
    rw [hf] at HFIT
    by_cases hsz : s.size ≤ 300
    · have hf2 := hf
      unfold fitB at hf2
      rw [Bool.and_eq_true] at hf2
      have hsx := (small4_yes hf2.1).2
      have hsy := (small4_yes hf2.2).2
      have hlx := (small4_yes hf2.1).1
      have hly := (small4_yes hf2.2).1
      have HF1 := Lib.hid (fun w h k m => forward_any ex A B c d xs ys r t s w h k m hsx hsy (by omega))
      have HF2 := Lib.hid (fun w h k m => rforward_any ex A B c d xs ys r t s w h k m hsx hsy (by omega))
      have HB1 := Lib.hid (fun w h k m => backward_any ex A B c d xs ys r t s w h k m hsx hsy (by omega))
      have HTU := Lib.hid (fun w h k m => rturn_any ex A B c d xs ys r t w h k m (by omega) (by omega))
      have HB2 := Lib.hid (fun A' c' B' d' w k h m => rforward_any ex A' B' c' d' ys xs t r s w k h m hsy hsx (by omega))
      have htt : ∀ x : ByteArray, (x.toList == x.toList) = true := fun x => by simp
      have h11 := htt (fwdT xs r ys t s)
      have h12 := htt (fwdT ys t xs r s)
      unfold RetR at HTU
      unfold ruV at *
      generalize fwdT xs r ys t s = T1 at *
      generalize fwdT ys t xs r s = T2 at *
      generalize fwdO xs r ys t s = O1 at *
      generalize fwdO ys t xs r s = O2 at *
      clear hsh h hz hg k kz kg hf hsx hsy htt hf2
      cases O1 <;> cases O2 <;>
      · go_enter Tryd.func3, Tryd.ntmps3
        go_wp2_with (first
          | (go_at_call 14; refine (HFIT.out _ (PR.x (HI.go (by repeat (first | exact Below.refl _ _ | apply Below.drew | apply below_drewN | apply below_al)))) (PR.y (HI.go (by repeat (first | exact Below.refl _ _ | apply Below.drew | apply below_drewN | apply below_al)))) (PR.m (HI.go (by repeat (first | exact Below.refl _ _ | apply Below.drew | apply below_drewN | apply below_al))))).mono ?_; rintro e w1 ⟨rfl, hb⟩; replace HI := HI.go2 (by repeat (first | exact Below.refl _ _ | apply Below.drew | apply below_drewN | apply below_al)) hb; clear hb; obtain ⟨p1, p2, p3, p4, p5, p6⟩ := PR.cells HI)
          | (go_at_call 16; refine (HF1.out _ (PR.x (HI.go (by repeat (first | exact Below.refl _ _ | apply Below.drew | apply below_drewN | apply below_al)))) (PR.y (HI.go (by repeat (first | exact Below.refl _ _ | apply Below.drew | apply below_drewN | apply below_al)))) (PR.m (HI.go (by repeat (first | exact Below.refl _ _ | apply Below.drew | apply below_drewN | apply below_al))))).mono ?_; rintro e w2 ⟨rfl, hb⟩; replace HI := HI.go2 (by repeat (first | exact Below.refl _ _ | apply Below.drew | apply below_drewN | apply below_al)) hb; clear hb; obtain ⟨p1, p2, p3, p4, p5, p6⟩ := PR.cells HI)
          | (go_at_call_of 17 (Value.agg #[.bool ex, .slice A xs.length c, .bool r, .slice B ys.length d, .bool t]); refine (HF2.out _ (PR.x (HI.go (by repeat (first | exact Below.refl _ _ | apply Below.drew | apply below_drewN | apply below_al)))) (PR.y (HI.go (by repeat (first | exact Below.refl _ _ | apply Below.drew | apply below_drewN | apply below_al)))) (PR.m (HI.go (by repeat (first | exact Below.refl _ _ | apply Below.drew | apply below_drewN | apply below_al))))).mono ?_; rintro e w3 ⟨rfl, hb⟩; replace HI := HI.go2 (by repeat (first | exact Below.refl _ _ | apply Below.drew | apply below_drewN | apply below_al)) hb; clear hb; obtain ⟨p1, p2, p3, p4, p5, p6⟩ := PR.cells HI)
          | (go_at_call 18; refine (HB1.out _ (PR.x (HI.go (by repeat (first | exact Below.refl _ _ | apply Below.drew | apply below_drewN | apply below_al)))) (PR.y (HI.go (by repeat (first | exact Below.refl _ _ | apply Below.drew | apply below_drewN | apply below_al)))) (PR.m (HI.go (by repeat (first | exact Below.refl _ _ | apply Below.drew | apply below_drewN | apply below_al))))).mono ?_; rintro e w4 ⟨rfl, hb⟩; replace HI := HI.go2 (by repeat (first | exact Below.refl _ _ | apply Below.drew | apply below_drewN | apply below_al)) hb; clear hb; obtain ⟨p1, p2, p3, p4, p5, p6⟩ := PR.cells HI)
          | (go_at_call 19; refine (HTU.out _ (PR.x (HI.go (by repeat (first | exact Below.refl _ _ | apply Below.drew | apply below_drewN | apply below_al)))) (PR.y (HI.go (by repeat (first | exact Below.refl _ _ | apply Below.drew | apply below_drewN | apply below_al)))) (PR.m (HI.go (by repeat (first | exact Below.refl _ _ | apply Below.drew | apply below_drewN | apply below_al))))).mono ?_; rintro e w5 ⟨A', c', B', d', rfl, hr, hr2, hb⟩; replace HI := HI.go2 (by repeat (first | exact Below.refl _ _ | apply Below.drew | apply below_drewN | apply below_al)) hb; clear hb; have HRS := Lib.hid hr; have HRS2 := Lib.hid hr2; have g1 := hr.1; have g2 := hr.2.1; have g3 := hr2.1; have g4 := hr2.2.1; clear hr hr2; obtain ⟨p1, p2, p3, p4, p5, p6⟩ := PR.cells HI)
          | (go_at_call_of 17 (Value.agg #[.bool ex, .slice A' ys.length c', .bool t, .slice B' xs.length d', .bool r]); refine (HB2.out _ _ _ _ _ (HRS.out.below (by repeat (first | exact Below.refl _ _ | apply Below.drew | apply below_drewN | apply below_al))) (HRS2.out.below (by repeat (first | exact Below.refl _ _ | apply Below.drew | apply below_drewN | apply below_al))) (PR.m (HI.go (by repeat (first | exact Below.refl _ _ | apply Below.drew | apply below_drewN | apply below_al))))).mono ?_; rintro e w6 ⟨rfl, hb⟩; replace HI := HI.go2 (by repeat (first | exact Below.refl _ _ | apply Below.drew | apply below_drewN | apply below_al)) hb; clear hb; obtain ⟨p1, p2, p3, p4, p5, p6⟩ := PR.cells HI)
          | (go_at_call 15; refine (rawake_any _ (PR.m (HI.go (by repeat (first | exact Below.refl _ _ | apply Below.drew | apply below_drewN | apply below_al))))).mono ?_; rintro e w8 ⟨rfl, hb⟩; replace HI := HI.go2 (by repeat (first | exact Below.refl _ _ | apply Below.drew | apply below_drewN | apply below_al)) hb; clear hb))
        go_ret
        exact ⟨rfl, PR.b (HI.go (by repeat (first | exact Below.refl _ _ | apply Below.drew | apply below_drewN | apply below_al)))⟩
    · have hszI : (300 : Int) < (s.size : Int) := by omega
      unfold ruV at *
      clear hsh h hz hg k kz kg hf
      go_enter Tryd.func3, Tryd.ntmps3
      go_wp2_with (first
        | (go_at_call 14; refine (HFIT.out _ (PR.x (HI.go (by repeat (first | exact Below.refl _ _ | apply Below.drew | apply below_drewN | apply below_al)))) (PR.y (HI.go (by repeat (first | exact Below.refl _ _ | apply Below.drew | apply below_drewN | apply below_al)))) (PR.m (HI.go (by repeat (first | exact Below.refl _ _ | apply Below.drew | apply below_drewN | apply below_al))))).mono ?_; rintro e w1 ⟨rfl, hb⟩; replace HI := HI.go2 (by repeat (first | exact Below.refl _ _ | apply Below.drew | apply below_drewN | apply below_al)) hb; clear hb)
        | (go_at_call 15; refine (rawake_any _ (PR.m (HI.go (by repeat (first | exact Below.refl _ _ | apply Below.drew | apply below_drewN | apply below_al))))).mono ?_; rintro e w8 ⟨rfl, hb⟩; replace HI := HI.go2 (by repeat (first | exact Below.refl _ _ | apply Below.drew | apply below_drewN | apply below_al)) hb; clear hb))
      go_ret
      exact ⟨rfl, PR.b (HI.go (by repeat (first | exact Below.refl _ _ | apply Below.drew | apply below_drewN | apply below_al)))⟩
end Go.Proofs.YtidjmbmnfnnleaaDoor

