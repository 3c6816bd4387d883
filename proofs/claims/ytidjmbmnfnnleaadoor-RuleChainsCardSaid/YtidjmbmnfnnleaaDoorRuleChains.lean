/-
  RuleChains returns true.
-/
import Derived.Test.YtidjmbmnfnnleaaDoorR11
import Derived.Test.YtidjmbmnfnnleaaDoorRuleChecks
namespace Go.Proofs.YtidjmbmnfnnleaaDoor
set_option linter.unusedSimpArgs false
set_option linter.unusedVariables false
open Go.RowKit
open Pm

set_option maxHeartbeats 16000000 in
theorem ruleChains_any (ex : Bool) (A : Option Addr) (c : Nat) (xs : List ByteArray) (r : Bool) (B : Option Addr) (d : Nat) (ys : List ByteArray) (t : Bool) (fx : Bool) (C : Option Addr) (e : Nat) (zs : List ByteArray) (u : Bool) (D : Option Addr) (f : Nat) (vs : List ByteArray) (v : Bool) (W : World)
    (h : RT W A c xs) (hz : ∀ x ∈ xs, x.size ≤ maxLen) (hg : ∀ x ∈ xs, x.size ≤ reachBytes) (k : RT W B d ys) (kz : ∀ x ∈ ys, x.size ≤ maxLen) (kg : ∀ x ∈ ys, x.size ≤ reachBytes)
    (h' : RT W C e zs) (hz' : ∀ x ∈ zs, x.size ≤ maxLen) (hg' : ∀ x ∈ zs, x.size ≤ reachBytes) (k' : RT W D f vs) (kz' : ∀ x ∈ vs, x.size ≤ maxLen) (kg' : ∀ x ∈ vs, x.size ≤ reachBytes) (hsh : W.ShapedOpen Tryd.prog) :
    Calls Tryd.prog 11 #[ruV ex A c xs r B d ys t, ruV fx C e zs u D f vs v] W fun e w' => e = .returned (.bool true) ∧ Below W.heap.size W w' := by
  unfold maxLen at hz kz hz' kz'
  have HI := PRT.enter h k h' k' (ML.of hsh) ex r t fx u v 26
  have HFA := Lib.hid (fun w h k m => fit_any ex A B c d xs ys r t w h k m hg kg)
  have HFB := Lib.hid (fun w h k m => fit_any fx C D e f zs vs u v w h k m hg' kg')
  have hx1 := h.1
  have hx2 := h.2.1
  have hy1 := k.1
  have hy2 := k.2.1
  have hz1 := h'.1
  have hz2 := h'.2.1
  have hv1 := k'.1
  have hv2 := k'.2.1
  cases hf : fitB xs ys with
  | false =>
    rw [hf] at HFA
    unfold ruV at *
    clear hsh h hz hg k kz kg h' hz' hg' k' kz' kg' hf
    go_enter Tryd.func11, Tryd.ntmps11
    go_wp2_with (first
      | (go_at_call_of 14 (Value.agg #[.bool ex, .slice A xs.length c, .bool r, .slice B ys.length d, .bool t]); refine (HFA.out _ (HI.go (by repeat (first | exact Below.refl _ _ | apply Below.drew | apply below_drewN | apply below_al))).out.2.1.1.1 (HI.go (by repeat (first | exact Below.refl _ _ | apply Below.drew | apply below_drewN | apply below_al))).out.2.1.1.2 (HI.go (by repeat (first | exact Below.refl _ _ | apply Below.drew | apply below_drewN | apply below_al))).out.2.2.1).mono ?_; rintro e w1 ⟨rfl, hb⟩; replace HI := HI.go2 (by repeat (first | exact Below.refl _ _ | apply Below.drew | apply below_drewN | apply below_al)) hb; clear hb; obtain ⟨⟨p1, p2, p3, p4, p5, p6⟩, ⟨q1, q2, q3, q4, q5, q6⟩⟩ := HI.out.1)
      | (go_at_call_of 14 (Value.agg #[.bool fx, .slice C zs.length e, .bool u, .slice D vs.length f, .bool v]); refine (HFB.out _ (HI.go (by repeat (first | exact Below.refl _ _ | apply Below.drew | apply below_drewN | apply below_al))).out.2.1.2.1 (HI.go (by repeat (first | exact Below.refl _ _ | apply Below.drew | apply below_drewN | apply below_al))).out.2.1.2.2 (HI.go (by repeat (first | exact Below.refl _ _ | apply Below.drew | apply below_drewN | apply below_al))).out.2.2.1).mono ?_; rintro e w2 ⟨rfl, hb⟩; replace HI := HI.go2 (by repeat (first | exact Below.refl _ _ | apply Below.drew | apply below_drewN | apply below_al)) hb; clear hb; obtain ⟨⟨p1, p2, p3, p4, p5, p6⟩, ⟨q1, q2, q3, q4, q5, q6⟩⟩ := HI.out.1)
      | (go_at_call 15; refine (rawake_any _ (HI.go (by repeat (first | exact Below.refl _ _ | apply Below.drew | apply below_drewN | apply below_al))).out.2.2.1).mono ?_; rintro e w9 ⟨rfl, hb⟩; replace HI := HI.go2 (by repeat (first | exact Below.refl _ _ | apply Below.drew | apply below_drewN | apply below_al)) hb; clear hb))
    go_ret
    exact ⟨rfl, (HI.go (by repeat (first | exact Below.refl _ _ | apply Below.drew | apply below_drewN | apply below_al))).out.2.2.2⟩
  | true =>
    rw [hf] at HFA
    cases hf' : fitB zs vs with
    | false =>
      rw [hf'] at HFB
      unfold ruV at *
      clear hsh h hz hg k kz kg h' hz' hg' k' kz' kg' hf hf'
      go_enter Tryd.func11, Tryd.ntmps11
      go_wp2_with (first
        | (go_at_call_of 14 (Value.agg #[.bool ex, .slice A xs.length c, .bool r, .slice B ys.length d, .bool t]); refine (HFA.out _ (HI.go (by repeat (first | exact Below.refl _ _ | apply Below.drew | apply below_drewN | apply below_al))).out.2.1.1.1 (HI.go (by repeat (first | exact Below.refl _ _ | apply Below.drew | apply below_drewN | apply below_al))).out.2.1.1.2 (HI.go (by repeat (first | exact Below.refl _ _ | apply Below.drew | apply below_drewN | apply below_al))).out.2.2.1).mono ?_; rintro e w1 ⟨rfl, hb⟩; replace HI := HI.go2 (by repeat (first | exact Below.refl _ _ | apply Below.drew | apply below_drewN | apply below_al)) hb; clear hb; obtain ⟨⟨p1, p2, p3, p4, p5, p6⟩, ⟨q1, q2, q3, q4, q5, q6⟩⟩ := HI.out.1)
        | (go_at_call_of 14 (Value.agg #[.bool fx, .slice C zs.length e, .bool u, .slice D vs.length f, .bool v]); refine (HFB.out _ (HI.go (by repeat (first | exact Below.refl _ _ | apply Below.drew | apply below_drewN | apply below_al))).out.2.1.2.1 (HI.go (by repeat (first | exact Below.refl _ _ | apply Below.drew | apply below_drewN | apply below_al))).out.2.1.2.2 (HI.go (by repeat (first | exact Below.refl _ _ | apply Below.drew | apply below_drewN | apply below_al))).out.2.2.1).mono ?_; rintro e w2 ⟨rfl, hb⟩; replace HI := HI.go2 (by repeat (first | exact Below.refl _ _ | apply Below.drew | apply below_drewN | apply below_al)) hb; clear hb; obtain ⟨⟨p1, p2, p3, p4, p5, p6⟩, ⟨q1, q2, q3, q4, q5, q6⟩⟩ := HI.out.1)
        | (go_at_call 15; refine (rawake_any _ (HI.go (by repeat (first | exact Below.refl _ _ | apply Below.drew | apply below_drewN | apply below_al))).out.2.2.1).mono ?_; rintro e w9 ⟨rfl, hb⟩; replace HI := HI.go2 (by repeat (first | exact Below.refl _ _ | apply Below.drew | apply below_drewN | apply below_al)) hb; clear hb))
      go_ret
      exact ⟨rfl, (HI.go (by repeat (first | exact Below.refl _ _ | apply Below.drew | apply below_drewN | apply below_al))).out.2.2.2⟩
    | true =>
      rw [hf'] at HFB
      have fa := hf
      have fb := hf'
      unfold fitB at fa fb
      rw [Bool.and_eq_true] at fa fb
      have hsx := (small4_yes fa.1).2
      have hsy := (small4_yes fa.2).2
      have hsz := (small4_yes fb.1).2
      have hsv := (small4_yes fb.2).2
      have hlx := (small4_yes fa.1).1
      have hly := (small4_yes fa.2).1
      have hlz := (small4_yes fb.1).1
      have HCH := Lib.hid (fun w h k h' k' m => chain_any ex A c xs r B d ys t fx C e zs u D f vs v w h k h' k' m hsx hsy hsz hsv (by omega) (by omega))
      have HRC := Lib.hid (fun w h k h' k' m => rchain_any ex A c xs r B d ys t fx C e zs u D f vs v w h k h' k' m hsx hsy hsz hsv (by omega) (by omega) (by omega))
      have HSA := Lib.hid (fun L l R q A' c' B' d' C e D f w h k h' k' m => rsame_any false A' c' L l B' d' R q C e D f w h k h' k' m)
      unfold RetCh RetN at HCH HRC
      unfold ruV at *
      generalize chLr xs r ys t zs u vs v = ll at *
      generalize chRr xs r ys t zs u vs v = rr at *
      generalize chL xs r ys t zs u vs v = L at *
      generalize chR xs r ys t zs u vs v = R at *
      generalize chO xs r ys t zs u vs v = ok at *
      generalize chE xs r ys t zs u vs v = ne at *
      have hnn : (ne == ne) = true := by simp
      have hkk : (ok == ok) = true := by simp
      clear hsh h hz hg k kz kg h' hz' hg' k' kz' kg' hf hf' hsx hsy hsz hsv hlx hly hlz fa fb
      go_enter Tryd.func11, Tryd.ntmps11
      go_wp2_with (first
        | (go_at_call 28; refine (HCH.out _ (HI.go (by repeat (first | exact Below.refl _ _ | apply Below.drew | apply below_drewN | apply below_al))).out.2.1.1.1 (HI.go (by repeat (first | exact Below.refl _ _ | apply Below.drew | apply below_drewN | apply below_al))).out.2.1.1.2 (HI.go (by repeat (first | exact Below.refl _ _ | apply Below.drew | apply below_drewN | apply below_al))).out.2.1.2.1 (HI.go (by repeat (first | exact Below.refl _ _ | apply Below.drew | apply below_drewN | apply below_al))).out.2.1.2.2 (HI.go (by repeat (first | exact Below.refl _ _ | apply Below.drew | apply below_drewN | apply below_al))).out.2.2.1).mono ?_; rintro e w3 ⟨E, m, G, n, rfl, hr, hr2, hb⟩; replace HI := HI.go2 (by repeat (first | exact Below.refl _ _ | apply Below.drew | apply below_drewN | apply below_al)) hb; clear hb; have HD := At.prb (ex := false) (l := ll) (q := rr) hr hr2; have d1 := hr.1; have d2 := hr.2.1; have d3 := hr2.1; have d4 := hr2.2.1; clear hr hr2; obtain ⟨⟨p1, p2, p3, p4, p5, p6⟩, ⟨q1, q2, q3, q4, q5, q6⟩⟩ := HI.out.1)
        | (go_at_call 31; refine (HRC.out _ (HI.go (by repeat (first | exact Below.refl _ _ | apply Below.drew | apply below_drewN | apply below_al))).out.2.1.1.1 (HI.go (by repeat (first | exact Below.refl _ _ | apply Below.drew | apply below_drewN | apply below_al))).out.2.1.1.2 (HI.go (by repeat (first | exact Below.refl _ _ | apply Below.drew | apply below_drewN | apply below_al))).out.2.1.2.1 (HI.go (by repeat (first | exact Below.refl _ _ | apply Below.drew | apply below_drewN | apply below_al))).out.2.1.2.2 (HI.go (by repeat (first | exact Below.refl _ _ | apply Below.drew | apply below_drewN | apply below_al))).out.2.2.1).mono ?_; rintro e w4 ⟨F, i, H, j, rfl, hr, hr2, hb⟩; replace HD := HD.go2 (by repeat (first | exact Below.refl _ _ | apply Below.drew | apply below_drewN | apply below_al)) hb; replace HI := HI.go2 (by repeat (first | exact Below.refl _ _ | apply Below.drew | apply below_drewN | apply below_al)) hb; clear hb; have HF := At.prb (ex := false) (l := ll) (q := rr) hr hr2; have e1 := hr.1; have e2 := hr.2.1; have e3 := hr2.1; have e4 := hr2.2.1; clear hr hr2; obtain ⟨⟨p1, p2, p3, p4, p5, p6⟩, ⟨q1, q2, q3, q4, q5, q6⟩⟩ := HI.out.1; obtain ⟨s1, s2, s3, s4, s5, s6⟩ := HD.out.1)
        | (go_at_call 23; refine (HSA.out _ _ _ _ _ _ _ _ _ _ _ _ _ (HD.go (by repeat (first | exact Below.refl _ _ | apply Below.drew | apply below_drewN | apply below_al))).out.2.1 (HD.go (by repeat (first | exact Below.refl _ _ | apply Below.drew | apply below_drewN | apply below_al))).out.2.2 (HF.go (by repeat (first | exact Below.refl _ _ | apply Below.drew | apply below_drewN | apply below_al))).out.2.1 (HF.go (by repeat (first | exact Below.refl _ _ | apply Below.drew | apply below_drewN | apply below_al))).out.2.2 (HI.go (by repeat (first | exact Below.refl _ _ | apply Below.drew | apply below_drewN | apply below_al))).out.2.2.1).mono ?_; rintro e w5 ⟨rfl, hb⟩; replace HI := HI.go2 (by repeat (first | exact Below.refl _ _ | apply Below.drew | apply below_drewN | apply below_al)) hb; clear hb)
        | (go_at_call_of 14 (Value.agg #[.bool ex, .slice A xs.length c, .bool r, .slice B ys.length d, .bool t]); refine (HFA.out _ (HI.go (by repeat (first | exact Below.refl _ _ | apply Below.drew | apply below_drewN | apply below_al))).out.2.1.1.1 (HI.go (by repeat (first | exact Below.refl _ _ | apply Below.drew | apply below_drewN | apply below_al))).out.2.1.1.2 (HI.go (by repeat (first | exact Below.refl _ _ | apply Below.drew | apply below_drewN | apply below_al))).out.2.2.1).mono ?_; rintro e w1 ⟨rfl, hb⟩; replace HI := HI.go2 (by repeat (first | exact Below.refl _ _ | apply Below.drew | apply below_drewN | apply below_al)) hb; clear hb; obtain ⟨⟨p1, p2, p3, p4, p5, p6⟩, ⟨q1, q2, q3, q4, q5, q6⟩⟩ := HI.out.1)
        | (go_at_call_of 14 (Value.agg #[.bool fx, .slice C zs.length e, .bool u, .slice D vs.length f, .bool v]); refine (HFB.out _ (HI.go (by repeat (first | exact Below.refl _ _ | apply Below.drew | apply below_drewN | apply below_al))).out.2.1.2.1 (HI.go (by repeat (first | exact Below.refl _ _ | apply Below.drew | apply below_drewN | apply below_al))).out.2.1.2.2 (HI.go (by repeat (first | exact Below.refl _ _ | apply Below.drew | apply below_drewN | apply below_al))).out.2.2.1).mono ?_; rintro e w2 ⟨rfl, hb⟩; replace HI := HI.go2 (by repeat (first | exact Below.refl _ _ | apply Below.drew | apply below_drewN | apply below_al)) hb; clear hb; obtain ⟨⟨p1, p2, p3, p4, p5, p6⟩, ⟨q1, q2, q3, q4, q5, q6⟩⟩ := HI.out.1)
        | (go_at_call 15; refine (rawake_any _ (HI.go (by repeat (first | exact Below.refl _ _ | apply Below.drew | apply below_drewN | apply below_al))).out.2.2.1).mono ?_; rintro e w9 ⟨rfl, hb⟩; replace HI := HI.go2 (by repeat (first | exact Below.refl _ _ | apply Below.drew | apply below_drewN | apply below_al)) hb; clear hb))
      go_ret
      exact ⟨rfl, (HI.go (by repeat (first | exact Below.refl _ _ | apply Below.drew | apply below_drewN | apply below_al))).out.2.2.2⟩
end Go.Proofs.YtidjmbmnfnnleaaDoor

