/-
  RuleNarrowMeans returns true.
-/
import Derived.Test.YtidjmbmnfnnleaaDoorMS
import Derived.Test.YtidjmbmnfnnleaaDoorRuleNarrowsLeft
namespace Go.Proofs.YtidjmbmnfnnleaaDoor
set_option linter.unusedSimpArgs false
set_option linter.unusedVariables false
open Go.RowKit
open Pm

set_option maxHeartbeats 1000000 in
theorem has_any (A : Option Addr) (c : Nat) (xs : List ByteArray) (r : Bool) (s : ByteArray) (w : World) (h : RT w A c xs) (hm : ML w) (hsx : ∀ x ∈ xs, x.size ≤ 5000) (hs : s.size ≤ 5000) :
    Calls Tryd.prog 27 #[.agg #[.slice A xs.length c, .bool r], .string s] w fun e w' => e = .returned (.bool (matchOk mpOk xs r s)) ∧ Below w.heap.size w w' := by
  have HM : At (fun w => ML w) (w.alloc (.cells #[.slice A xs.length c, .bool r] 24)) := ⟨kept_ml, hm.below (below_alloc _ _)⟩
  have HI := P1.enter h hm r 24
  have HMA := Lib.hid (fun w h m => (rmatch_any A c xs r s w h (five9 hsx) hs m).mono fun _ _ h => mx_two h)
  have hx1 := h.1
  have hx2 := h.2.1
  generalize mxB xs r s = cs at *
  generalize matchOk mpOk xs r s = ok at *
  clear h hm hsx hs HM
  go_enter Tryd.func27, Tryd.ntmps27
  go_wp2_with (go_at_call 36; refine (HMA.out _ (P1.x (HI.go (by repeat (first | exact Below.refl _ _ | apply Below.drew | apply below_drewN | apply below_al)))) (P1.m (HI.go (by repeat (first | exact Below.refl _ _ | apply Below.drew | apply below_drewN | apply below_al))))).mono ?_; rintro e w3 ⟨D, m, rfl, hr, hb⟩; replace HI := HI.go2 (by repeat (first | exact Below.refl _ _ | apply Below.drew | apply below_drewN | apply below_al)) hb; clear hb; clear hr)
  go_ret
  exact ⟨rfl, P1.b (HI.go (by repeat (first | exact Below.refl _ _ | apply Below.drew | apply below_drewN | apply below_al)))⟩
theorem small4_300 {xs : List ByteArray} (h : small4B xs = true) : ∀ x ∈ xs, x.size ≤ 300 := by
  unfold small4B at h
  rw [Bool.and_eq_true, decide_eq_true_iff, decide_eq_true_iff] at h
  intro x hx
  have := sum_mem hx
  omega
theorem up5 {m : Nat} (hm : m ≤ 5000) {xs : List ByteArray} (h : ∀ x ∈ xs, x.size ≤ m) : ∀ x ∈ xs, x.size ≤ 5000 := fun x hx => Nat.le_trans (h x hx) hm

set_option maxHeartbeats 16000000 in
theorem ruleNarrowMeans_any (ex : Bool) (A : Option Addr) (c : Nat) (xs : List ByteArray) (r : Bool) (B : Option Addr) (d : Nat) (ys : List ByteArray) (t : Bool) (C : Option Addr) (e : Nat) (zs : List ByteArray) (u : Bool) (s : ByteArray) (W : World) (h : RT W A c xs) (hz : ∀ x ∈ xs, x.size ≤ maxLen) (hg : ∀ x ∈ xs, x.size ≤ reachBytes) (k : RT W B d ys) (kz : ∀ x ∈ ys, x.size ≤ maxLen) (kg : ∀ x ∈ ys, x.size ≤ reachBytes) (l : RT W C e zs) (lz : ∀ x ∈ zs, x.size ≤ maxLen) (lg : ∀ x ∈ zs, x.size ≤ reachBytes) (hss : s.size ≤ maxLen) (hsh : W.ShapedOpen Tryd.prog) :
    Calls Tryd.prog 7 #[ruV ex A c xs r B d ys t, .agg #[.slice C zs.length e, .bool u], .string s] W fun e w' => e = .returned (.bool true) ∧ Below W.heap.size W w' := by
  unfold maxLen at hss
  unfold maxLen at hz kz lz
  have HI := PRP.enter h k l (ML.of hsh) ex r t u 26 24
  have HFIT := Lib.hid (fun w h k m => fit_any ex A B c d xs ys r t w h k m hg kg)
  have HSM := Lib.hid (fun w l => small4_any C e zs u w l lg)
  have hx1 := h.1
  have hx2 := h.2.1
  have hy1 := k.1
  have hy2 := k.2.1
  have hz1 := l.1
  have hz2 := l.2.1
  cases hf : fitB xs ys with
  | false =>
    rw [hf] at HFIT
    unfold ruV at *
    clear hsh h hz hg k kz kg hf l lz lg
    go_enter Tryd.func7, Tryd.ntmps7
    go_wp2_with (first
      | (go_at_call 14; refine (HFIT.out _ (HI.go (by repeat (first | exact Below.refl _ _ | apply Below.drew | apply below_drewN | apply below_al))).out.2.1.1 (HI.go (by repeat (first | exact Below.refl _ _ | apply Below.drew | apply below_drewN | apply below_al))).out.2.1.2.1 (HI.go (by repeat (first | exact Below.refl _ _ | apply Below.drew | apply below_drewN | apply below_al))).out.2.2.1).mono ?_; rintro e w1 ⟨rfl, hb⟩; replace HI := HI.go2 (by repeat (first | exact Below.refl _ _ | apply Below.drew | apply below_drewN | apply below_al)) hb; clear hb; obtain ⟨⟨p1, p2, p3, p4, p5, p6⟩, ⟨q1, q2, q3, q4, q5⟩⟩ := HI.out.1)
      | (go_at_call 24; refine (HSM.out _ (HI.go (by repeat (first | exact Below.refl _ _ | apply Below.drew | apply below_drewN | apply below_al))).out.2.1.2.2).mono ?_; rintro e w1 ⟨rfl, hb⟩; replace HI := HI.go2 (by repeat (first | exact Below.refl _ _ | apply Below.drew | apply below_drewN | apply below_al)) hb; clear hb)
      | (go_at_call 15; refine (rawake_any _ (HI.go (by repeat (first | exact Below.refl _ _ | apply Below.drew | apply below_drewN | apply below_al))).out.2.2.1).mono ?_; rintro e w8 ⟨rfl, hb⟩; replace HI := HI.go2 (by repeat (first | exact Below.refl _ _ | apply Below.drew | apply below_drewN | apply below_al)) hb; clear hb))
    go_ret
    exact ⟨rfl, (HI.go (by repeat (first | exact Below.refl _ _ | apply Below.drew | apply below_drewN | apply below_al))).out.2.2.2⟩
  | true =>
    rw [hf] at HFIT
    cases hs : small4B zs with
    | false =>
      rw [hs] at HSM
      unfold ruV at *
      clear hsh h hz hg k kz kg hf l lz lg hs
      go_enter Tryd.func7, Tryd.ntmps7
      go_wp2_with (first
        | (go_at_call 14; refine (HFIT.out _ (HI.go (by repeat (first | exact Below.refl _ _ | apply Below.drew | apply below_drewN | apply below_al))).out.2.1.1 (HI.go (by repeat (first | exact Below.refl _ _ | apply Below.drew | apply below_drewN | apply below_al))).out.2.1.2.1 (HI.go (by repeat (first | exact Below.refl _ _ | apply Below.drew | apply below_drewN | apply below_al))).out.2.2.1).mono ?_; rintro e w1 ⟨rfl, hb⟩; replace HI := HI.go2 (by repeat (first | exact Below.refl _ _ | apply Below.drew | apply below_drewN | apply below_al)) hb; clear hb; obtain ⟨⟨p1, p2, p3, p4, p5, p6⟩, ⟨q1, q2, q3, q4, q5⟩⟩ := HI.out.1)
        | (go_at_call 24; refine (HSM.out _ (HI.go (by repeat (first | exact Below.refl _ _ | apply Below.drew | apply below_drewN | apply below_al))).out.2.1.2.2).mono ?_; rintro e w1 ⟨rfl, hb⟩; replace HI := HI.go2 (by repeat (first | exact Below.refl _ _ | apply Below.drew | apply below_drewN | apply below_al)) hb; clear hb)
        | (go_at_call 15; refine (rawake_any _ (HI.go (by repeat (first | exact Below.refl _ _ | apply Below.drew | apply below_drewN | apply below_al))).out.2.2.1).mono ?_; rintro e w8 ⟨rfl, hb⟩; replace HI := HI.go2 (by repeat (first | exact Below.refl _ _ | apply Below.drew | apply below_drewN | apply below_al)) hb; clear hb))
      go_ret
      exact ⟨rfl, (HI.go (by repeat (first | exact Below.refl _ _ | apply Below.drew | apply below_drewN | apply below_al))).out.2.2.2⟩
    | true =>
      rw [hs] at HSM
      by_cases h300 : s.size ≤ 300
      · have hf2 := hf
        unfold fitB at hf2
        rw [Bool.and_eq_true] at hf2
        have hsx := (small4_yes hf2.1).2
        have hsy := (small4_yes hf2.2).2
        have hsz := (small4_yes hs).2
        have hlx := (small4_yes hf2.1).1
        have hlz := (small4_yes hs).1
        have HN1 := Lib.hid (fun w h k l m => narrowL_any ex A c xs r B d ys t C e zs u w h k l m hsx hsy hsz (by omega) (by omega))
        have HF1 := Lib.hid (fun w h k m => forward_any ex A B c d xs ys r t s w h k m hsx hsy (by omega))
        have HHA := Lib.hid (fun w l m => has_any C e zs u s w l m hsz (by omega))
        have hnz := nar_sz (r := r) (t := t) (u := u) (small4_300 hf2.1) (small4_300 hf2.2) (small4_300 hs)
        have HF2 := Lib.hid (fun D m E n w h k hm => forward_any false D E m n (narL xs r ys t zs u) (narR xs r ys t zs u) (narLr xs r ys t zs u) (narRr xs r ys t zs u) s w h k hm (up5 (by omega) hnz.1) (up5 (by omega) hnz.2) (by omega))
        have HMEA := Lib.hid (fun he => nar_means (xs := xs) (ys := ys) (zs := zs) (r := r) (t := t) (u := u) (s := s) he)
        have htt : ∀ x : ByteArray, (x.toList == x.toList) = true := fun x => by simp
        have h11 := htt (fwdT xs r ys t s)
        unfold RetNar RetN at HN1
        unfold ruV at *
        generalize fwdO (narL xs r ys t zs u) (narLr xs r ys t zs u) (narR xs r ys t zs u) (narRr xs r ys t zs u) s = NO at *
        generalize fwdT (narL xs r ys t zs u) (narLr xs r ys t zs u) (narR xs r ys t zs u) (narRr xs r ys t zs u) s = NT at *
        generalize narL xs r ys t zs u = L at *
        generalize narLr xs r ys t zs u = ll at *
        generalize narR xs r ys t zs u = R at *
        generalize narRr xs r ys t zs u = rr at *
        generalize narO xs r ys t zs u = ok at *
        generalize narE xs r ys t zs u = ne at *
        generalize fwdO xs r ys t s = F at *
        generalize fwdT xs r ys t s = T at *
        generalize matchOk mpOk zs u s = H at *
        clear hsh h hz hg k kz kg hf l lz lg hs hsx hsy hsz hlx hlz hf2 hnz htt
        by_cases h0 : ne = 0
        · subst h0
          have hm := HMEA.out rfl
          clear HMEA
          cases ok with
          | false =>
            have hfh := hm.1 rfl
            clear hm
            cases F with
            | false =>
              clear hfh
              cases H with
              | false =>
                go_enter Tryd.func7, Tryd.ntmps7
                go_wp2_with (first
                  | (go_at_call 14; refine (HFIT.out _ (HI.go (by repeat (first | exact Below.refl _ _ | apply Below.drew | apply below_drewN | apply below_al))).out.2.1.1 (HI.go (by repeat (first | exact Below.refl _ _ | apply Below.drew | apply below_drewN | apply below_al))).out.2.1.2.1 (HI.go (by repeat (first | exact Below.refl _ _ | apply Below.drew | apply below_drewN | apply below_al))).out.2.2.1).mono ?_; rintro e w1 ⟨rfl, hb⟩; replace HI := HI.go2 (by repeat (first | exact Below.refl _ _ | apply Below.drew | apply below_drewN | apply below_al)) hb; clear hb; obtain ⟨⟨p1, p2, p3, p4, p5, p6⟩, ⟨q1, q2, q3, q4, q5⟩⟩ := HI.out.1)
                  | (go_at_call 24; refine (HSM.out _ (HI.go (by repeat (first | exact Below.refl _ _ | apply Below.drew | apply below_drewN | apply below_al))).out.2.1.2.2).mono ?_; rintro e w2 ⟨rfl, hb⟩; replace HI := HI.go2 (by repeat (first | exact Below.refl _ _ | apply Below.drew | apply below_drewN | apply below_al)) hb; clear hb; obtain ⟨⟨p1, p2, p3, p4, p5, p6⟩, ⟨q1, q2, q3, q4, q5⟩⟩ := HI.out.1)
                  | (go_at_call 25; refine (HN1.out _ (HI.go (by repeat (first | exact Below.refl _ _ | apply Below.drew | apply below_drewN | apply below_al))).out.2.1.1 (HI.go (by repeat (first | exact Below.refl _ _ | apply Below.drew | apply below_drewN | apply below_al))).out.2.1.2.1 (HI.go (by repeat (first | exact Below.refl _ _ | apply Below.drew | apply below_drewN | apply below_al))).out.2.1.2.2 (HI.go (by repeat (first | exact Below.refl _ _ | apply Below.drew | apply below_drewN | apply below_al))).out.2.2.1).mono ?_; rintro e w3 ⟨D, m, E, n, rfl, hr, hr2, hb⟩; replace HI := HI.go2 (by repeat (first | exact Below.refl _ _ | apply Below.drew | apply below_drewN | apply below_al)) hb; clear hb; have HD := At.prb (ex := false) (l := ll) (q := rr) hr hr2; have d1 := hr.1; have d2 := hr.2.1; have d3 := hr2.1; have d4 := hr2.2.1; clear hr hr2; obtain ⟨⟨p1, p2, p3, p4, p5, p6⟩, ⟨q1, q2, q3, q4, q5⟩⟩ := HI.out.1)
                  | (go_at_call_of 16 (Value.agg #[.bool ex, .slice A xs.length c, .bool r, .slice B ys.length d, .bool t]); refine (HF1.out _ (HI.go (by repeat (first | exact Below.refl _ _ | apply Below.drew | apply below_drewN | apply below_al))).out.2.1.1 (HI.go (by repeat (first | exact Below.refl _ _ | apply Below.drew | apply below_drewN | apply below_al))).out.2.1.2.1 (HI.go (by repeat (first | exact Below.refl _ _ | apply Below.drew | apply below_drewN | apply below_al))).out.2.2.1).mono ?_; rintro e w4 ⟨rfl, hb⟩; replace HD := HD.go2 (by repeat (first | exact Below.refl _ _ | apply Below.drew | apply below_drewN | apply below_al)) hb; replace HI := HI.go2 (by repeat (first | exact Below.refl _ _ | apply Below.drew | apply below_drewN | apply below_al)) hb; clear hb; obtain ⟨⟨p1, p2, p3, p4, p5, p6⟩, ⟨q1, q2, q3, q4, q5⟩⟩ := HI.out.1; obtain ⟨s1, s2, s3, s4, s5, s6⟩ := HD.out.1)
                  | (go_at_call 27; refine (HHA.out _ (HI.go (by repeat (first | exact Below.refl _ _ | apply Below.drew | apply below_drewN | apply below_al))).out.2.1.2.2 (HI.go (by repeat (first | exact Below.refl _ _ | apply Below.drew | apply below_drewN | apply below_al))).out.2.2.1).mono ?_; rintro e w5 ⟨rfl, hb⟩; replace HD := HD.go2 (by repeat (first | exact Below.refl _ _ | apply Below.drew | apply below_drewN | apply below_al)) hb; replace HI := HI.go2 (by repeat (first | exact Below.refl _ _ | apply Below.drew | apply below_drewN | apply below_al)) hb; clear hb; obtain ⟨⟨p1, p2, p3, p4, p5, p6⟩, ⟨q1, q2, q3, q4, q5⟩⟩ := HI.out.1; obtain ⟨s1, s2, s3, s4, s5, s6⟩ := HD.out.1)
                  | (go_at_call_of 16 (Value.agg #[.bool false, .slice D L.length m, .bool ll, .slice E R.length n, .bool rr]); refine (HF2.out _ _ _ _ _ (HD.go (by repeat (first | exact Below.refl _ _ | apply Below.drew | apply below_drewN | apply below_al))).out.2.1 (HD.go (by repeat (first | exact Below.refl _ _ | apply Below.drew | apply below_drewN | apply below_al))).out.2.2 (HI.go (by repeat (first | exact Below.refl _ _ | apply Below.drew | apply below_drewN | apply below_al))).out.2.2.1).mono ?_; rintro e w6 ⟨rfl, hb⟩; replace HI := HI.go2 (by repeat (first | exact Below.refl _ _ | apply Below.drew | apply below_drewN | apply below_al)) hb; clear hb)
                  | (go_at_call 15; refine (rawake_any _ (HI.go (by repeat (first | exact Below.refl _ _ | apply Below.drew | apply below_drewN | apply below_al))).out.2.2.1).mono ?_; rintro e w8 ⟨rfl, hb⟩; replace HI := HI.go2 (by repeat (first | exact Below.refl _ _ | apply Below.drew | apply below_drewN | apply below_al)) hb; clear hb))
                go_ret
                exact ⟨rfl, (HI.go (by repeat (first | exact Below.refl _ _ | apply Below.drew | apply below_drewN | apply below_al))).out.2.2.2⟩
              | true =>
                go_enter Tryd.func7, Tryd.ntmps7
                go_wp2_with (first
                  | (go_at_call 14; refine (HFIT.out _ (HI.go (by repeat (first | exact Below.refl _ _ | apply Below.drew | apply below_drewN | apply below_al))).out.2.1.1 (HI.go (by repeat (first | exact Below.refl _ _ | apply Below.drew | apply below_drewN | apply below_al))).out.2.1.2.1 (HI.go (by repeat (first | exact Below.refl _ _ | apply Below.drew | apply below_drewN | apply below_al))).out.2.2.1).mono ?_; rintro e w1 ⟨rfl, hb⟩; replace HI := HI.go2 (by repeat (first | exact Below.refl _ _ | apply Below.drew | apply below_drewN | apply below_al)) hb; clear hb; obtain ⟨⟨p1, p2, p3, p4, p5, p6⟩, ⟨q1, q2, q3, q4, q5⟩⟩ := HI.out.1)
                  | (go_at_call 24; refine (HSM.out _ (HI.go (by repeat (first | exact Below.refl _ _ | apply Below.drew | apply below_drewN | apply below_al))).out.2.1.2.2).mono ?_; rintro e w2 ⟨rfl, hb⟩; replace HI := HI.go2 (by repeat (first | exact Below.refl _ _ | apply Below.drew | apply below_drewN | apply below_al)) hb; clear hb; obtain ⟨⟨p1, p2, p3, p4, p5, p6⟩, ⟨q1, q2, q3, q4, q5⟩⟩ := HI.out.1)
                  | (go_at_call 25; refine (HN1.out _ (HI.go (by repeat (first | exact Below.refl _ _ | apply Below.drew | apply below_drewN | apply below_al))).out.2.1.1 (HI.go (by repeat (first | exact Below.refl _ _ | apply Below.drew | apply below_drewN | apply below_al))).out.2.1.2.1 (HI.go (by repeat (first | exact Below.refl _ _ | apply Below.drew | apply below_drewN | apply below_al))).out.2.1.2.2 (HI.go (by repeat (first | exact Below.refl _ _ | apply Below.drew | apply below_drewN | apply below_al))).out.2.2.1).mono ?_; rintro e w3 ⟨D, m, E, n, rfl, hr, hr2, hb⟩; replace HI := HI.go2 (by repeat (first | exact Below.refl _ _ | apply Below.drew | apply below_drewN | apply below_al)) hb; clear hb; have HD := At.prb (ex := false) (l := ll) (q := rr) hr hr2; have d1 := hr.1; have d2 := hr.2.1; have d3 := hr2.1; have d4 := hr2.2.1; clear hr hr2; obtain ⟨⟨p1, p2, p3, p4, p5, p6⟩, ⟨q1, q2, q3, q4, q5⟩⟩ := HI.out.1)
                  | (go_at_call_of 16 (Value.agg #[.bool ex, .slice A xs.length c, .bool r, .slice B ys.length d, .bool t]); refine (HF1.out _ (HI.go (by repeat (first | exact Below.refl _ _ | apply Below.drew | apply below_drewN | apply below_al))).out.2.1.1 (HI.go (by repeat (first | exact Below.refl _ _ | apply Below.drew | apply below_drewN | apply below_al))).out.2.1.2.1 (HI.go (by repeat (first | exact Below.refl _ _ | apply Below.drew | apply below_drewN | apply below_al))).out.2.2.1).mono ?_; rintro e w4 ⟨rfl, hb⟩; replace HD := HD.go2 (by repeat (first | exact Below.refl _ _ | apply Below.drew | apply below_drewN | apply below_al)) hb; replace HI := HI.go2 (by repeat (first | exact Below.refl _ _ | apply Below.drew | apply below_drewN | apply below_al)) hb; clear hb; obtain ⟨⟨p1, p2, p3, p4, p5, p6⟩, ⟨q1, q2, q3, q4, q5⟩⟩ := HI.out.1; obtain ⟨s1, s2, s3, s4, s5, s6⟩ := HD.out.1)
                  | (go_at_call 27; refine (HHA.out _ (HI.go (by repeat (first | exact Below.refl _ _ | apply Below.drew | apply below_drewN | apply below_al))).out.2.1.2.2 (HI.go (by repeat (first | exact Below.refl _ _ | apply Below.drew | apply below_drewN | apply below_al))).out.2.2.1).mono ?_; rintro e w5 ⟨rfl, hb⟩; replace HD := HD.go2 (by repeat (first | exact Below.refl _ _ | apply Below.drew | apply below_drewN | apply below_al)) hb; replace HI := HI.go2 (by repeat (first | exact Below.refl _ _ | apply Below.drew | apply below_drewN | apply below_al)) hb; clear hb; obtain ⟨⟨p1, p2, p3, p4, p5, p6⟩, ⟨q1, q2, q3, q4, q5⟩⟩ := HI.out.1; obtain ⟨s1, s2, s3, s4, s5, s6⟩ := HD.out.1)
                  | (go_at_call_of 16 (Value.agg #[.bool false, .slice D L.length m, .bool ll, .slice E R.length n, .bool rr]); refine (HF2.out _ _ _ _ _ (HD.go (by repeat (first | exact Below.refl _ _ | apply Below.drew | apply below_drewN | apply below_al))).out.2.1 (HD.go (by repeat (first | exact Below.refl _ _ | apply Below.drew | apply below_drewN | apply below_al))).out.2.2 (HI.go (by repeat (first | exact Below.refl _ _ | apply Below.drew | apply below_drewN | apply below_al))).out.2.2.1).mono ?_; rintro e w6 ⟨rfl, hb⟩; replace HI := HI.go2 (by repeat (first | exact Below.refl _ _ | apply Below.drew | apply below_drewN | apply below_al)) hb; clear hb)
                  | (go_at_call 15; refine (rawake_any _ (HI.go (by repeat (first | exact Below.refl _ _ | apply Below.drew | apply below_drewN | apply below_al))).out.2.2.1).mono ?_; rintro e w8 ⟨rfl, hb⟩; replace HI := HI.go2 (by repeat (first | exact Below.refl _ _ | apply Below.drew | apply below_drewN | apply below_al)) hb; clear hb))
                go_ret
                exact ⟨rfl, (HI.go (by repeat (first | exact Below.refl _ _ | apply Below.drew | apply below_drewN | apply below_al))).out.2.2.2⟩
            | true =>
              cases H with
              | false =>
                clear hfh
                go_enter Tryd.func7, Tryd.ntmps7
                go_wp2_with (first
                  | (go_at_call 14; refine (HFIT.out _ (HI.go (by repeat (first | exact Below.refl _ _ | apply Below.drew | apply below_drewN | apply below_al))).out.2.1.1 (HI.go (by repeat (first | exact Below.refl _ _ | apply Below.drew | apply below_drewN | apply below_al))).out.2.1.2.1 (HI.go (by repeat (first | exact Below.refl _ _ | apply Below.drew | apply below_drewN | apply below_al))).out.2.2.1).mono ?_; rintro e w1 ⟨rfl, hb⟩; replace HI := HI.go2 (by repeat (first | exact Below.refl _ _ | apply Below.drew | apply below_drewN | apply below_al)) hb; clear hb; obtain ⟨⟨p1, p2, p3, p4, p5, p6⟩, ⟨q1, q2, q3, q4, q5⟩⟩ := HI.out.1)
                  | (go_at_call 24; refine (HSM.out _ (HI.go (by repeat (first | exact Below.refl _ _ | apply Below.drew | apply below_drewN | apply below_al))).out.2.1.2.2).mono ?_; rintro e w2 ⟨rfl, hb⟩; replace HI := HI.go2 (by repeat (first | exact Below.refl _ _ | apply Below.drew | apply below_drewN | apply below_al)) hb; clear hb; obtain ⟨⟨p1, p2, p3, p4, p5, p6⟩, ⟨q1, q2, q3, q4, q5⟩⟩ := HI.out.1)
                  | (go_at_call 25; refine (HN1.out _ (HI.go (by repeat (first | exact Below.refl _ _ | apply Below.drew | apply below_drewN | apply below_al))).out.2.1.1 (HI.go (by repeat (first | exact Below.refl _ _ | apply Below.drew | apply below_drewN | apply below_al))).out.2.1.2.1 (HI.go (by repeat (first | exact Below.refl _ _ | apply Below.drew | apply below_drewN | apply below_al))).out.2.1.2.2 (HI.go (by repeat (first | exact Below.refl _ _ | apply Below.drew | apply below_drewN | apply below_al))).out.2.2.1).mono ?_; rintro e w3 ⟨D, m, E, n, rfl, hr, hr2, hb⟩; replace HI := HI.go2 (by repeat (first | exact Below.refl _ _ | apply Below.drew | apply below_drewN | apply below_al)) hb; clear hb; have HD := At.prb (ex := false) (l := ll) (q := rr) hr hr2; have d1 := hr.1; have d2 := hr.2.1; have d3 := hr2.1; have d4 := hr2.2.1; clear hr hr2; obtain ⟨⟨p1, p2, p3, p4, p5, p6⟩, ⟨q1, q2, q3, q4, q5⟩⟩ := HI.out.1)
                  | (go_at_call_of 16 (Value.agg #[.bool ex, .slice A xs.length c, .bool r, .slice B ys.length d, .bool t]); refine (HF1.out _ (HI.go (by repeat (first | exact Below.refl _ _ | apply Below.drew | apply below_drewN | apply below_al))).out.2.1.1 (HI.go (by repeat (first | exact Below.refl _ _ | apply Below.drew | apply below_drewN | apply below_al))).out.2.1.2.1 (HI.go (by repeat (first | exact Below.refl _ _ | apply Below.drew | apply below_drewN | apply below_al))).out.2.2.1).mono ?_; rintro e w4 ⟨rfl, hb⟩; replace HD := HD.go2 (by repeat (first | exact Below.refl _ _ | apply Below.drew | apply below_drewN | apply below_al)) hb; replace HI := HI.go2 (by repeat (first | exact Below.refl _ _ | apply Below.drew | apply below_drewN | apply below_al)) hb; clear hb; obtain ⟨⟨p1, p2, p3, p4, p5, p6⟩, ⟨q1, q2, q3, q4, q5⟩⟩ := HI.out.1; obtain ⟨s1, s2, s3, s4, s5, s6⟩ := HD.out.1)
                  | (go_at_call 27; refine (HHA.out _ (HI.go (by repeat (first | exact Below.refl _ _ | apply Below.drew | apply below_drewN | apply below_al))).out.2.1.2.2 (HI.go (by repeat (first | exact Below.refl _ _ | apply Below.drew | apply below_drewN | apply below_al))).out.2.2.1).mono ?_; rintro e w5 ⟨rfl, hb⟩; replace HD := HD.go2 (by repeat (first | exact Below.refl _ _ | apply Below.drew | apply below_drewN | apply below_al)) hb; replace HI := HI.go2 (by repeat (first | exact Below.refl _ _ | apply Below.drew | apply below_drewN | apply below_al)) hb; clear hb; obtain ⟨⟨p1, p2, p3, p4, p5, p6⟩, ⟨q1, q2, q3, q4, q5⟩⟩ := HI.out.1; obtain ⟨s1, s2, s3, s4, s5, s6⟩ := HD.out.1)
                  | (go_at_call_of 16 (Value.agg #[.bool false, .slice D L.length m, .bool ll, .slice E R.length n, .bool rr]); refine (HF2.out _ _ _ _ _ (HD.go (by repeat (first | exact Below.refl _ _ | apply Below.drew | apply below_drewN | apply below_al))).out.2.1 (HD.go (by repeat (first | exact Below.refl _ _ | apply Below.drew | apply below_drewN | apply below_al))).out.2.2 (HI.go (by repeat (first | exact Below.refl _ _ | apply Below.drew | apply below_drewN | apply below_al))).out.2.2.1).mono ?_; rintro e w6 ⟨rfl, hb⟩; replace HI := HI.go2 (by repeat (first | exact Below.refl _ _ | apply Below.drew | apply below_drewN | apply below_al)) hb; clear hb)
                  | (go_at_call 15; refine (rawake_any _ (HI.go (by repeat (first | exact Below.refl _ _ | apply Below.drew | apply below_drewN | apply below_al))).out.2.2.1).mono ?_; rintro e w8 ⟨rfl, hb⟩; replace HI := HI.go2 (by repeat (first | exact Below.refl _ _ | apply Below.drew | apply below_drewN | apply below_al)) hb; clear hb))
                go_ret
                exact ⟨rfl, (HI.go (by repeat (first | exact Below.refl _ _ | apply Below.drew | apply below_drewN | apply below_al))).out.2.2.2⟩
              | true => exact absurd hfh (by decide)
          | true =>
            obtain ⟨rfl, rfl⟩ := hm.2 rfl
            clear hm
            cases F <;> cases H <;> simp only [Bool.and_self, Bool.and_false, Bool.false_and, Bool.and_true, Bool.true_and, Bool.false_eq_true, if_true, if_false] at HF2
            all_goals
              go_enter Tryd.func7, Tryd.ntmps7
              go_wp2_with (first
                | (go_at_call 14; refine (HFIT.out _ (HI.go (by repeat (first | exact Below.refl _ _ | apply Below.drew | apply below_drewN | apply below_al))).out.2.1.1 (HI.go (by repeat (first | exact Below.refl _ _ | apply Below.drew | apply below_drewN | apply below_al))).out.2.1.2.1 (HI.go (by repeat (first | exact Below.refl _ _ | apply Below.drew | apply below_drewN | apply below_al))).out.2.2.1).mono ?_; rintro e w1 ⟨rfl, hb⟩; replace HI := HI.go2 (by repeat (first | exact Below.refl _ _ | apply Below.drew | apply below_drewN | apply below_al)) hb; clear hb; obtain ⟨⟨p1, p2, p3, p4, p5, p6⟩, ⟨q1, q2, q3, q4, q5⟩⟩ := HI.out.1)
                | (go_at_call 24; refine (HSM.out _ (HI.go (by repeat (first | exact Below.refl _ _ | apply Below.drew | apply below_drewN | apply below_al))).out.2.1.2.2).mono ?_; rintro e w2 ⟨rfl, hb⟩; replace HI := HI.go2 (by repeat (first | exact Below.refl _ _ | apply Below.drew | apply below_drewN | apply below_al)) hb; clear hb; obtain ⟨⟨p1, p2, p3, p4, p5, p6⟩, ⟨q1, q2, q3, q4, q5⟩⟩ := HI.out.1)
                | (go_at_call 25; refine (HN1.out _ (HI.go (by repeat (first | exact Below.refl _ _ | apply Below.drew | apply below_drewN | apply below_al))).out.2.1.1 (HI.go (by repeat (first | exact Below.refl _ _ | apply Below.drew | apply below_drewN | apply below_al))).out.2.1.2.1 (HI.go (by repeat (first | exact Below.refl _ _ | apply Below.drew | apply below_drewN | apply below_al))).out.2.1.2.2 (HI.go (by repeat (first | exact Below.refl _ _ | apply Below.drew | apply below_drewN | apply below_al))).out.2.2.1).mono ?_; rintro e w3 ⟨D, m, E, n, rfl, hr, hr2, hb⟩; replace HI := HI.go2 (by repeat (first | exact Below.refl _ _ | apply Below.drew | apply below_drewN | apply below_al)) hb; clear hb; have HD := At.prb (ex := false) (l := ll) (q := rr) hr hr2; have d1 := hr.1; have d2 := hr.2.1; have d3 := hr2.1; have d4 := hr2.2.1; clear hr hr2; obtain ⟨⟨p1, p2, p3, p4, p5, p6⟩, ⟨q1, q2, q3, q4, q5⟩⟩ := HI.out.1)
                | (go_at_call_of 16 (Value.agg #[.bool ex, .slice A xs.length c, .bool r, .slice B ys.length d, .bool t]); refine (HF1.out _ (HI.go (by repeat (first | exact Below.refl _ _ | apply Below.drew | apply below_drewN | apply below_al))).out.2.1.1 (HI.go (by repeat (first | exact Below.refl _ _ | apply Below.drew | apply below_drewN | apply below_al))).out.2.1.2.1 (HI.go (by repeat (first | exact Below.refl _ _ | apply Below.drew | apply below_drewN | apply below_al))).out.2.2.1).mono ?_; rintro e w4 ⟨rfl, hb⟩; replace HD := HD.go2 (by repeat (first | exact Below.refl _ _ | apply Below.drew | apply below_drewN | apply below_al)) hb; replace HI := HI.go2 (by repeat (first | exact Below.refl _ _ | apply Below.drew | apply below_drewN | apply below_al)) hb; clear hb; obtain ⟨⟨p1, p2, p3, p4, p5, p6⟩, ⟨q1, q2, q3, q4, q5⟩⟩ := HI.out.1; obtain ⟨s1, s2, s3, s4, s5, s6⟩ := HD.out.1)
                | (go_at_call 27; refine (HHA.out _ (HI.go (by repeat (first | exact Below.refl _ _ | apply Below.drew | apply below_drewN | apply below_al))).out.2.1.2.2 (HI.go (by repeat (first | exact Below.refl _ _ | apply Below.drew | apply below_drewN | apply below_al))).out.2.2.1).mono ?_; rintro e w5 ⟨rfl, hb⟩; replace HD := HD.go2 (by repeat (first | exact Below.refl _ _ | apply Below.drew | apply below_drewN | apply below_al)) hb; replace HI := HI.go2 (by repeat (first | exact Below.refl _ _ | apply Below.drew | apply below_drewN | apply below_al)) hb; clear hb; obtain ⟨⟨p1, p2, p3, p4, p5, p6⟩, ⟨q1, q2, q3, q4, q5⟩⟩ := HI.out.1; obtain ⟨s1, s2, s3, s4, s5, s6⟩ := HD.out.1)
                | (go_at_call_of 16 (Value.agg #[.bool false, .slice D L.length m, .bool ll, .slice E R.length n, .bool rr]); refine (HF2.out _ _ _ _ _ (HD.go (by repeat (first | exact Below.refl _ _ | apply Below.drew | apply below_drewN | apply below_al))).out.2.1 (HD.go (by repeat (first | exact Below.refl _ _ | apply Below.drew | apply below_drewN | apply below_al))).out.2.2 (HI.go (by repeat (first | exact Below.refl _ _ | apply Below.drew | apply below_drewN | apply below_al))).out.2.2.1).mono ?_; rintro e w6 ⟨rfl, hb⟩; replace HI := HI.go2 (by repeat (first | exact Below.refl _ _ | apply Below.drew | apply below_drewN | apply below_al)) hb; clear hb)
                | (go_at_call 15; refine (rawake_any _ (HI.go (by repeat (first | exact Below.refl _ _ | apply Below.drew | apply below_drewN | apply below_al))).out.2.2.1).mono ?_; rintro e w8 ⟨rfl, hb⟩; replace HI := HI.go2 (by repeat (first | exact Below.refl _ _ | apply Below.drew | apply below_drewN | apply below_al)) hb; clear hb))
              go_ret
              exact ⟨rfl, (HI.go (by repeat (first | exact Below.refl _ _ | apply Below.drew | apply below_drewN | apply below_al))).out.2.2.2⟩
        · have hnB : (ne != 0) = true := by rw [bne_iff_ne]; exact h0
          clear HMEA h0
          go_enter Tryd.func7, Tryd.ntmps7
          go_wp2_with (first
            | (go_at_call 14; refine (HFIT.out _ (HI.go (by repeat (first | exact Below.refl _ _ | apply Below.drew | apply below_drewN | apply below_al))).out.2.1.1 (HI.go (by repeat (first | exact Below.refl _ _ | apply Below.drew | apply below_drewN | apply below_al))).out.2.1.2.1 (HI.go (by repeat (first | exact Below.refl _ _ | apply Below.drew | apply below_drewN | apply below_al))).out.2.2.1).mono ?_; rintro e w1 ⟨rfl, hb⟩; replace HI := HI.go2 (by repeat (first | exact Below.refl _ _ | apply Below.drew | apply below_drewN | apply below_al)) hb; clear hb; obtain ⟨⟨p1, p2, p3, p4, p5, p6⟩, ⟨q1, q2, q3, q4, q5⟩⟩ := HI.out.1)
            | (go_at_call 24; refine (HSM.out _ (HI.go (by repeat (first | exact Below.refl _ _ | apply Below.drew | apply below_drewN | apply below_al))).out.2.1.2.2).mono ?_; rintro e w2 ⟨rfl, hb⟩; replace HI := HI.go2 (by repeat (first | exact Below.refl _ _ | apply Below.drew | apply below_drewN | apply below_al)) hb; clear hb; obtain ⟨⟨p1, p2, p3, p4, p5, p6⟩, ⟨q1, q2, q3, q4, q5⟩⟩ := HI.out.1)
            | (go_at_call 25; refine (HN1.out _ (HI.go (by repeat (first | exact Below.refl _ _ | apply Below.drew | apply below_drewN | apply below_al))).out.2.1.1 (HI.go (by repeat (first | exact Below.refl _ _ | apply Below.drew | apply below_drewN | apply below_al))).out.2.1.2.1 (HI.go (by repeat (first | exact Below.refl _ _ | apply Below.drew | apply below_drewN | apply below_al))).out.2.1.2.2 (HI.go (by repeat (first | exact Below.refl _ _ | apply Below.drew | apply below_drewN | apply below_al))).out.2.2.1).mono ?_; rintro e w3 ⟨D, m, E, n, rfl, hr, hr2, hb⟩; replace HI := HI.go2 (by repeat (first | exact Below.refl _ _ | apply Below.drew | apply below_drewN | apply below_al)) hb; clear hb; have HD := At.prb (ex := false) (l := ll) (q := rr) hr hr2; have d1 := hr.1; have d2 := hr.2.1; have d3 := hr2.1; have d4 := hr2.2.1; clear hr hr2; obtain ⟨⟨p1, p2, p3, p4, p5, p6⟩, ⟨q1, q2, q3, q4, q5⟩⟩ := HI.out.1)
            | (go_at_call_of 16 (Value.agg #[.bool ex, .slice A xs.length c, .bool r, .slice B ys.length d, .bool t]); refine (HF1.out _ (HI.go (by repeat (first | exact Below.refl _ _ | apply Below.drew | apply below_drewN | apply below_al))).out.2.1.1 (HI.go (by repeat (first | exact Below.refl _ _ | apply Below.drew | apply below_drewN | apply below_al))).out.2.1.2.1 (HI.go (by repeat (first | exact Below.refl _ _ | apply Below.drew | apply below_drewN | apply below_al))).out.2.2.1).mono ?_; rintro e w4 ⟨rfl, hb⟩; replace HD := HD.go2 (by repeat (first | exact Below.refl _ _ | apply Below.drew | apply below_drewN | apply below_al)) hb; replace HI := HI.go2 (by repeat (first | exact Below.refl _ _ | apply Below.drew | apply below_drewN | apply below_al)) hb; clear hb; obtain ⟨⟨p1, p2, p3, p4, p5, p6⟩, ⟨q1, q2, q3, q4, q5⟩⟩ := HI.out.1; obtain ⟨s1, s2, s3, s4, s5, s6⟩ := HD.out.1)
            | (go_at_call 27; refine (HHA.out _ (HI.go (by repeat (first | exact Below.refl _ _ | apply Below.drew | apply below_drewN | apply below_al))).out.2.1.2.2 (HI.go (by repeat (first | exact Below.refl _ _ | apply Below.drew | apply below_drewN | apply below_al))).out.2.2.1).mono ?_; rintro e w5 ⟨rfl, hb⟩; replace HD := HD.go2 (by repeat (first | exact Below.refl _ _ | apply Below.drew | apply below_drewN | apply below_al)) hb; replace HI := HI.go2 (by repeat (first | exact Below.refl _ _ | apply Below.drew | apply below_drewN | apply below_al)) hb; clear hb; obtain ⟨⟨p1, p2, p3, p4, p5, p6⟩, ⟨q1, q2, q3, q4, q5⟩⟩ := HI.out.1; obtain ⟨s1, s2, s3, s4, s5, s6⟩ := HD.out.1)
            | (go_at_call_of 16 (Value.agg #[.bool false, .slice D L.length m, .bool ll, .slice E R.length n, .bool rr]); refine (HF2.out _ _ _ _ _ (HD.go (by repeat (first | exact Below.refl _ _ | apply Below.drew | apply below_drewN | apply below_al))).out.2.1 (HD.go (by repeat (first | exact Below.refl _ _ | apply Below.drew | apply below_drewN | apply below_al))).out.2.2 (HI.go (by repeat (first | exact Below.refl _ _ | apply Below.drew | apply below_drewN | apply below_al))).out.2.2.1).mono ?_; rintro e w6 ⟨rfl, hb⟩; replace HI := HI.go2 (by repeat (first | exact Below.refl _ _ | apply Below.drew | apply below_drewN | apply below_al)) hb; clear hb)
            | (go_at_call 15; refine (rawake_any _ (HI.go (by repeat (first | exact Below.refl _ _ | apply Below.drew | apply below_drewN | apply below_al))).out.2.2.1).mono ?_; rintro e w8 ⟨rfl, hb⟩; replace HI := HI.go2 (by repeat (first | exact Below.refl _ _ | apply Below.drew | apply below_drewN | apply below_al)) hb; clear hb))
          go_ret
          exact ⟨rfl, (HI.go (by repeat (first | exact Below.refl _ _ | apply Below.drew | apply below_drewN | apply below_al))).out.2.2.2⟩
      · have hszI : (300 : Int) < (s.size : Int) := by omega
        unfold ruV at *
        clear hsh h hz hg k kz kg hf l lz lg hs
        go_enter Tryd.func7, Tryd.ntmps7
        go_wp2_with (first
          | (go_at_call 14; refine (HFIT.out _ (HI.go (by repeat (first | exact Below.refl _ _ | apply Below.drew | apply below_drewN | apply below_al))).out.2.1.1 (HI.go (by repeat (first | exact Below.refl _ _ | apply Below.drew | apply below_drewN | apply below_al))).out.2.1.2.1 (HI.go (by repeat (first | exact Below.refl _ _ | apply Below.drew | apply below_drewN | apply below_al))).out.2.2.1).mono ?_; rintro e w1 ⟨rfl, hb⟩; replace HI := HI.go2 (by repeat (first | exact Below.refl _ _ | apply Below.drew | apply below_drewN | apply below_al)) hb; clear hb; obtain ⟨⟨p1, p2, p3, p4, p5, p6⟩, ⟨q1, q2, q3, q4, q5⟩⟩ := HI.out.1)
          | (go_at_call 24; refine (HSM.out _ (HI.go (by repeat (first | exact Below.refl _ _ | apply Below.drew | apply below_drewN | apply below_al))).out.2.1.2.2).mono ?_; rintro e w1 ⟨rfl, hb⟩; replace HI := HI.go2 (by repeat (first | exact Below.refl _ _ | apply Below.drew | apply below_drewN | apply below_al)) hb; clear hb)
          | (go_at_call 15; refine (rawake_any _ (HI.go (by repeat (first | exact Below.refl _ _ | apply Below.drew | apply below_drewN | apply below_al))).out.2.2.1).mono ?_; rintro e w8 ⟨rfl, hb⟩; replace HI := HI.go2 (by repeat (first | exact Below.refl _ _ | apply Below.drew | apply below_drewN | apply below_al)) hb; clear hb))
        go_ret
        exact ⟨rfl, (HI.go (by repeat (first | exact Below.refl _ _ | apply Below.drew | apply below_drewN | apply below_al))).out.2.2.2⟩
end Go.Proofs.YtidjmbmnfnnleaaDoor

