/-
  Rules: the walk of the reference's NarrowLeft.
-/
import Derived.Test.YtidjmbmnfnnleaaDoorR6
namespace Go.Proofs.YtidjmbmnfnnleaaDoor
set_option linter.unusedSimpArgs false
set_option linter.unusedVariables false
open Go.RowKit
open Pm

set_option maxHeartbeats 16000000 in
theorem rnarrowL_any (ex : Bool) (A : Option Addr) (c : Nat) (xs : List ByteArray) (r : Bool) (B : Option Addr) (d : Nat) (ys : List ByteArray) (t : Bool) (C : Option Addr) (e : Nat) (zs : List ByteArray) (u : Bool) (w : World) (h : RT w A c xs) (k : RT w B d ys) (l : RT w C e zs) (hm : ML w)
    (hsx : ∀ x ∈ xs, x.size ≤ 5000) (hsy : ∀ x ∈ ys, x.size ≤ 5000) (hsz : ∀ x ∈ zs, x.size ≤ 5000) (hlx : xs.length ≤ 5000) (hlz : zs.length ≤ 5000) :
    Calls Tryd.prog 26 #[ruV ex A c xs r B d ys t, .agg #[.slice C zs.length e, .bool u]] w (RetNar w xs r ys t zs u) := by
  have HI := PNL.enter h k l hm ex r t u 26 24
  have HCK := Lib.hid (fun w h k m => rruleCheck_any ex A B c d xs ys r t w h k m hsx hsy)
  have HCP := Lib.hid (fun w l => rcheck_any C e zs u w l (five9 hsz))
  have HME := Lib.hid (fun w h l => (rmeet_any A C c e xs zs r u w h l (five9 hsx) (five9 hsz)).mono fun _ _ h => RetM.two h)
  have hx1 := h.1
  have hx2 := h.2.1
  have hy1 := k.1
  have hy2 := k.2.1
  have hz1 := l.1
  have hz2 := l.2.1
  clear h k l hm
  by_cases h1 : ruleE xs r ys t = 0
  · by_cases h2 : checkP zs u = 0
    · rw [h1] at HCK
      rw [h2] at HCP
      cases h3 : meetOk xs zs r u with
      | false =>
        have HBAD := Lib.hid (fun e w' h => nar_bad (w := w) (e := e) (w' := w') (xs := xs) (ys := ys) (zs := zs) (r := r) (t := t) (u := u) (n := 0) (by unfold narO; rw [h3]; simp) (by unfold narE; rw [if_neg (by simp [h1]), if_neg (by simp [h2]), if_pos h3]) h)
        rw [h3] at HME
        simp only [Bool.false_eq_true, if_false] at HME
        obtain ⟨mr, hmr⟩ : ∃ mr, mr = false := ⟨_, rfl⟩
        unfold ruV at *
        clear hsx hsy hsz hlx hlz h1 h2 h3 hmr
        go_enter Tryd.func26, Tryd.ntmps26
        go_wp2_with (first
          | (go_at_call 22; refine (HCK.out _ (HI.go (by repeat (first | exact Below.refl _ _ | apply Below.drew | apply below_drewN | apply below_al))).out.2.2.1.1 (HI.go (by repeat (first | exact Below.refl _ _ | apply Below.drew | apply below_drewN | apply below_al))).out.2.2.1.2.1 (HI.go (by repeat (first | exact Below.refl _ _ | apply Below.drew | apply below_drewN | apply below_al))).out.2.2.2.1).mono ?_; rintro e w1 ⟨rfl, hb⟩; replace HI := HI.go2 (by repeat (first | exact Below.refl _ _ | apply Below.drew | apply below_drewN | apply below_al)) hb; clear hb; obtain ⟨⟨⟨p1, p2, p3, p4, p5, p6⟩, ⟨q1, q2, q3, q4, q5⟩⟩, ⟨⟨s0, s1, s2, s3, s4, s5⟩, ⟨f0, f1, f2, f3, f4, f5⟩⟩⟩ := PNL.cells HI)
          | (go_at_call 41; refine (HCP.out _ (HI.go (by repeat (first | exact Below.refl _ _ | apply Below.drew | apply below_drewN | apply below_al))).out.2.2.1.2.2).mono ?_; rintro e w2 ⟨rfl, hb⟩; replace HI := HI.go2 (by repeat (first | exact Below.refl _ _ | apply Below.drew | apply below_drewN | apply below_al)) hb; clear hb; obtain ⟨⟨⟨p1, p2, p3, p4, p5, p6⟩, ⟨q1, q2, q3, q4, q5⟩⟩, ⟨⟨s0, s1, s2, s3, s4, s5⟩, ⟨f0, f1, f2, f3, f4, f5⟩⟩⟩ := PNL.cells HI)
          | (go_at_call 46; refine (HME.out _ (HI.go (by repeat (first | exact Below.refl _ _ | apply Below.drew | apply below_drewN | apply below_al))).out.2.2.1.1 (HI.go (by repeat (first | exact Below.refl _ _ | apply Below.drew | apply below_drewN | apply below_al))).out.2.2.1.2.2).mono ?_; rintro e w3 ⟨M, n, rfl, hr, hb⟩; replace HI := HI.go2 (by repeat (first | exact Below.refl _ _ | apply Below.drew | apply below_drewN | apply below_al)) hb; clear hb; have HM := At.rb2 (q := mr) hr; have m1 := hr.1; have m2 := hr.2.1; clear hr; obtain ⟨⟨⟨p1, p2, p3, p4, p5, p6⟩, ⟨q1, q2, q3, q4, q5⟩⟩, ⟨⟨s0, s1, s2, s3, s4, s5⟩, ⟨f0, f1, f2, f3, f4, f5⟩⟩⟩ := PNL.cells HI)
          | (go_at_call 47; refine (HBI.out _ _ _ (HI.go (by repeat (first | exact Below.refl _ _ | apply Below.drew | apply below_drewN | apply below_al))).out.2.2.1.1 (HM.go (by repeat (first | exact Below.refl _ _ | apply Below.drew | apply below_drewN | apply below_al))).out.2 (HI.go (by repeat (first | exact Below.refl _ _ | apply Below.drew | apply below_drewN | apply below_al))).out.2.2.2.1).mono ?_; rintro e w4 ⟨L, l, rfl, hbt, hb⟩; replace HM := HM.go2 (by repeat (first | exact Below.refl _ _ | apply Below.drew | apply below_drewN | apply below_al)) hb; replace HI := HI.go2 (by repeat (first | exact Below.refl _ _ | apply Below.drew | apply below_drewN | apply below_al)) hb; clear hb; have HL := At.bt2 hbt; have l1 := hbt.1; have l2 := hbt.2.1; clear hbt; obtain ⟨⟨⟨p1, p2, p3, p4, p5, p6⟩, ⟨q1, q2, q3, q4, q5⟩⟩, ⟨⟨s0, s1, s2, s3, s4, s5⟩, ⟨f0, f1, f2, f3, f4, f5⟩⟩⟩ := PNL.cells HI; obtain ⟨⟨m3, m4, m5, m6, m7⟩, -⟩ := HM.out)
          | (go_at_call 48; refine (HSU.out _ _ _ (HI.go (by repeat (first | exact Below.refl _ _ | apply Below.drew | apply below_drewN | apply below_al))).out.2.2.1.2.1 (HL.go (by repeat (first | exact Below.refl _ _ | apply Below.drew | apply below_drewN | apply below_al))).out).mono ?_; rintro e w5 ⟨D, k, rfl, hr, hb⟩; replace HM := HM.go2 (by repeat (first | exact Below.refl _ _ | apply Below.drew | apply below_drewN | apply below_al)) hb; replace HI := HI.go2 (by repeat (first | exact Below.refl _ _ | apply Below.drew | apply below_drewN | apply below_al)) hb; clear hb; have HD := At.rb2 (q := dr) hr; have HD0 := Lib.hid hr; have d1 := hr.1; have d2 := hr.2.1; clear hr; obtain ⟨⟨⟨p1, p2, p3, p4, p5, p6⟩, ⟨q1, q2, q3, q4, q5⟩⟩, ⟨⟨s0, s1, s2, s3, s4, s5⟩, ⟨f0, f1, f2, f3, f4, f5⟩⟩⟩ := PNL.cells HI; obtain ⟨⟨m3, m4, m5, m6, m7⟩, -⟩ := HM.out))
        refine bodyPost_ret (v := .tuple #[.agg #[.bool false, .slice none 0 0, .bool false, .slice none 0 0, .bool false], .bool false, .int .i64 0]) (by simp [results, Tryd.results26, go_sem, s0, s1, s2, s3, s4, s5, f0, f1, f2, f3, f4]) rfl (HBAD.out _ _ ⟨none, 0, none, 0, rfl, RT.nil _ _ _ (by omega), RT.nil _ _ _ (by omega), ?_⟩)
        exact below_al (below_set5 HI.out.2.2.2.2 (by omega) _ _ _ _ _) _
      | true =>
        rw [h3] at HME
        simp only [if_true] at HME
        have hms : ∀ z ∈ meetL xs zs, z.size ≤ 5000 := fun z hz => (meetL_mem h3 hz).elim (hsx z) (hsz z)
        have hml : (meetL xs zs).length ≤ 5000 := by
          unfold meetL
          split
          · rw [mzAll_len (by omega)]; exact hlz
          · rw [mzAll_len (by omega)]; exact hlx
        have HCA := Lib.hid (fun M n w h m k hm => carry_any A c xs r M n (meetL xs zs) (r && u) B d ys t w h m k hm hsx hms hml hsy)
        have HBI : Hid (∀ M n w, RT w A c xs → RT w M n (meetL xs zs) → ML w → Calls Tryd.prog 47 #[.agg #[.slice A xs.length c, .bool r], .agg #[.slice M (meetL xs zs).length n, .bool (r && u)]] w (RetBT w (bndB xs r (meetL xs zs) (r && u)) (withinOk insB (meetL xs zs) xs (r && u) r))) := Lib.hid (fun M n w h m hm => rbind_any A M c n xs (meetL xs zs) r (r && u) w h m hm (five9 hsx) (five9 hms))
        have HSU := Lib.hid (fun L l w k b => rsub_any B L d l ys t (bndB xs r (meetL xs zs) (r && u)) w k b hsy (bnd_sizes hml hms).1 (bnd_sizes hml hms).2)
        have HO : Hid (narO xs r ys t zs u = (carE xs r (meetL xs zs) (r && u) ys t == 0)) := Lib.hid (by unfold narO; rw [h1, h2, h3]; rfl)
        have HN : Hid (narE xs r ys t zs u = carE xs r (meetL xs zs) (r && u) ys t) := Lib.hid (by unfold narE; rw [if_neg (by simp [h1]), if_neg (by simp [h2]), if_neg (by simp [h3])])
        have HCE : Hid (carE xs r (meetL xs zs) (r && u) ys t = if subE ys t (bndB xs r (meetL xs zs) (r && u)) = 0 then 0 else 43) := Lib.hid rfl
        by_cases h4 : subE ys t (bndB xs r (meetL xs zs) (r && u)) = 0
        · have hce : carE xs r (meetL xs zs) (r && u) ys t = 0 := by rw [HCE.out, if_pos h4]
          have HGOOD := Lib.hid (fun e w' h => nar_good (w := w) (e := e) (w' := w') (xs := xs) (ys := ys) (zs := zs) (r := r) (t := t) (u := u) (by rw [HO.out, hce]; rfl) h)
          unfold ruV at *
          rw [hce] at HCA
          rw [h4] at HSU
          have e1 : subL ys t (bndB xs r (meetL xs zs) (r && u)) = carL xs r (meetL xs zs) (r && u) ys t := rfl
          have e2 : subR ys t (bndB xs r (meetL xs zs) (r && u)) = carR xs r (meetL xs zs) (r && u) ys t := rfl
          rw [e1, e2] at HSU
          generalize carL xs r (meetL xs zs) (r && u) ys t = dl at *
          generalize carR xs r (meetL xs zs) (r && u) ys t = dr at *
          generalize bndB xs r (meetL xs zs) (r && u) = bs at *
          generalize withinOk insB (meetL xs zs) xs (r && u) r = wo at *
          generalize meetL xs zs = mm at *
          generalize hmr : (r && u) = mr at *
          clear hsx hsy hsz hlx hlz h1 h2 h3 hms hml HO HN HCE hce h4 hmr e1 e2
          go_enter Tryd.func26, Tryd.ntmps26
          go_wp2_with (first
            | (go_at_call 22; refine (HCK.out _ (HI.go (by repeat (first | exact Below.refl _ _ | apply Below.drew | apply below_drewN | apply below_al))).out.2.2.1.1 (HI.go (by repeat (first | exact Below.refl _ _ | apply Below.drew | apply below_drewN | apply below_al))).out.2.2.1.2.1 (HI.go (by repeat (first | exact Below.refl _ _ | apply Below.drew | apply below_drewN | apply below_al))).out.2.2.2.1).mono ?_; rintro e w1 ⟨rfl, hb⟩; replace HI := HI.go2 (by repeat (first | exact Below.refl _ _ | apply Below.drew | apply below_drewN | apply below_al)) hb; clear hb; obtain ⟨⟨⟨p1, p2, p3, p4, p5, p6⟩, ⟨q1, q2, q3, q4, q5⟩⟩, ⟨⟨s0, s1, s2, s3, s4, s5⟩, ⟨f0, f1, f2, f3, f4, f5⟩⟩⟩ := PNL.cells HI)
            | (go_at_call 41; refine (HCP.out _ (HI.go (by repeat (first | exact Below.refl _ _ | apply Below.drew | apply below_drewN | apply below_al))).out.2.2.1.2.2).mono ?_; rintro e w2 ⟨rfl, hb⟩; replace HI := HI.go2 (by repeat (first | exact Below.refl _ _ | apply Below.drew | apply below_drewN | apply below_al)) hb; clear hb; obtain ⟨⟨⟨p1, p2, p3, p4, p5, p6⟩, ⟨q1, q2, q3, q4, q5⟩⟩, ⟨⟨s0, s1, s2, s3, s4, s5⟩, ⟨f0, f1, f2, f3, f4, f5⟩⟩⟩ := PNL.cells HI)
            | (go_at_call 46; refine (HME.out _ (HI.go (by repeat (first | exact Below.refl _ _ | apply Below.drew | apply below_drewN | apply below_al))).out.2.2.1.1 (HI.go (by repeat (first | exact Below.refl _ _ | apply Below.drew | apply below_drewN | apply below_al))).out.2.2.1.2.2).mono ?_; rintro e w3 ⟨M, n, rfl, hr, hb⟩; replace HI := HI.go2 (by repeat (first | exact Below.refl _ _ | apply Below.drew | apply below_drewN | apply below_al)) hb; clear hb; have HM := At.rb2 (q := mr) hr; have m1 := hr.1; have m2 := hr.2.1; clear hr; obtain ⟨⟨⟨p1, p2, p3, p4, p5, p6⟩, ⟨q1, q2, q3, q4, q5⟩⟩, ⟨⟨s0, s1, s2, s3, s4, s5⟩, ⟨f0, f1, f2, f3, f4, f5⟩⟩⟩ := PNL.cells HI)
            | (go_at_call 47; refine (HBI.out _ _ _ (HI.go (by repeat (first | exact Below.refl _ _ | apply Below.drew | apply below_drewN | apply below_al))).out.2.2.1.1 (HM.go (by repeat (first | exact Below.refl _ _ | apply Below.drew | apply below_drewN | apply below_al))).out.2 (HI.go (by repeat (first | exact Below.refl _ _ | apply Below.drew | apply below_drewN | apply below_al))).out.2.2.2.1).mono ?_; rintro e w4 ⟨L, l, rfl, hbt, hb⟩; replace HM := HM.go2 (by repeat (first | exact Below.refl _ _ | apply Below.drew | apply below_drewN | apply below_al)) hb; replace HI := HI.go2 (by repeat (first | exact Below.refl _ _ | apply Below.drew | apply below_drewN | apply below_al)) hb; clear hb; have HL := At.bt2 hbt; have l1 := hbt.1; have l2 := hbt.2.1; clear hbt; obtain ⟨⟨⟨p1, p2, p3, p4, p5, p6⟩, ⟨q1, q2, q3, q4, q5⟩⟩, ⟨⟨s0, s1, s2, s3, s4, s5⟩, ⟨f0, f1, f2, f3, f4, f5⟩⟩⟩ := PNL.cells HI; obtain ⟨⟨m3, m4, m5, m6, m7⟩, -⟩ := HM.out)
            | (go_at_call 48; refine (HSU.out _ _ _ (HI.go (by repeat (first | exact Below.refl _ _ | apply Below.drew | apply below_drewN | apply below_al))).out.2.2.1.2.1 (HL.go (by repeat (first | exact Below.refl _ _ | apply Below.drew | apply below_drewN | apply below_al))).out).mono ?_; rintro e w5 ⟨D, k, rfl, hr, hb⟩; replace HM := HM.go2 (by repeat (first | exact Below.refl _ _ | apply Below.drew | apply below_drewN | apply below_al)) hb; replace HI := HI.go2 (by repeat (first | exact Below.refl _ _ | apply Below.drew | apply below_drewN | apply below_al)) hb; clear hb; have HD := At.rb2 (q := dr) hr; have HD0 := Lib.hid hr; have d1 := hr.1; have d2 := hr.2.1; clear hr; obtain ⟨⟨⟨p1, p2, p3, p4, p5, p6⟩, ⟨q1, q2, q3, q4, q5⟩⟩, ⟨⟨s0, s1, s2, s3, s4, s5⟩, ⟨f0, f1, f2, f3, f4, f5⟩⟩⟩ := PNL.cells HI; obtain ⟨⟨m3, m4, m5, m6, m7⟩, -⟩ := HM.out))
          refine bodyPost_ret (v := .tuple #[.agg #[.bool false, .slice M mm.length n, .bool mr, .slice D dl.length k, .bool dr], .bool true, .int .i64 0]) (by simp [results, Tryd.results26, go_sem, s0, s1, s2, s3, s4, s5, f0, f1, f2, f3, f4]) rfl (HGOOD.out _ _ ⟨M, n, D, k, rfl, ?_, ?_, ?_⟩)
          · exact (HM.out.2.set5 HI.out.2.1.1 (bool_ns _) (slice_ns _ _ _) (bool_ns _) (slice_ns _ _ _) (bool_ns _) _ _ _ _ _).below (below_alloc _ _)
          · exact (HD0.out.set5 HI.out.2.1.1 (bool_ns _) (slice_ns _ _ _) (bool_ns _) (slice_ns _ _ _) (bool_ns _) _ _ _ _ _).below (below_alloc _ _)
          · exact below_al (below_set5 HI.out.2.2.2.2 (by omega) _ _ _ _ _) _
        · have hce : carE xs r (meetL xs zs) (r && u) ys t = 43 := by rw [HCE.out, if_neg h4]
          have hse := sub_err rfl h4
          have HBAD := Lib.hid (fun e w' h => nar_bad (w := w) (e := e) (w' := w') (xs := xs) (ys := ys) (zs := zs) (r := r) (t := t) (u := u) (n := 43) (by rw [HO.out, hce]; rfl) (by rw [HN.out, hce]) h)
          have hnB : (subE ys t (bndB xs r (meetL xs zs) (r && u)) != 0) = true := by rw [bne_iff_ne]; exact h4
          unfold ruV at *
          rw [hce] at HCA
          have e1 : carL xs r (meetL xs zs) (r && u) ys t = [] := hse.1
          have e2 : carR xs r (meetL xs zs) (r && u) ys t = false := hse.2
          rw [e1, e2] at HCA
          rw [hse.1, hse.2] at HSU
          obtain ⟨dr, hdr⟩ : ∃ dr, dr = false := ⟨_, rfl⟩
          rw [← hdr] at HCA HSU
          generalize subE ys t (bndB xs r (meetL xs zs) (r && u)) = ee at *
          generalize bndB xs r (meetL xs zs) (r && u) = bs at *
          generalize withinOk insB (meetL xs zs) xs (r && u) r = wo at *
          generalize meetL xs zs = mm at *
          generalize hmr : (r && u) = mr at *
          clear hsx hsy hsz hlx hlz h1 h2 h3 hms hml HO HN HCE hce h4 hmr e1 e2 hse hdr
          go_enter Tryd.func26, Tryd.ntmps26
          go_wp2_with (first
            | (go_at_call 22; refine (HCK.out _ (HI.go (by repeat (first | exact Below.refl _ _ | apply Below.drew | apply below_drewN | apply below_al))).out.2.2.1.1 (HI.go (by repeat (first | exact Below.refl _ _ | apply Below.drew | apply below_drewN | apply below_al))).out.2.2.1.2.1 (HI.go (by repeat (first | exact Below.refl _ _ | apply Below.drew | apply below_drewN | apply below_al))).out.2.2.2.1).mono ?_; rintro e w1 ⟨rfl, hb⟩; replace HI := HI.go2 (by repeat (first | exact Below.refl _ _ | apply Below.drew | apply below_drewN | apply below_al)) hb; clear hb; obtain ⟨⟨⟨p1, p2, p3, p4, p5, p6⟩, ⟨q1, q2, q3, q4, q5⟩⟩, ⟨⟨s0, s1, s2, s3, s4, s5⟩, ⟨f0, f1, f2, f3, f4, f5⟩⟩⟩ := PNL.cells HI)
            | (go_at_call 41; refine (HCP.out _ (HI.go (by repeat (first | exact Below.refl _ _ | apply Below.drew | apply below_drewN | apply below_al))).out.2.2.1.2.2).mono ?_; rintro e w2 ⟨rfl, hb⟩; replace HI := HI.go2 (by repeat (first | exact Below.refl _ _ | apply Below.drew | apply below_drewN | apply below_al)) hb; clear hb; obtain ⟨⟨⟨p1, p2, p3, p4, p5, p6⟩, ⟨q1, q2, q3, q4, q5⟩⟩, ⟨⟨s0, s1, s2, s3, s4, s5⟩, ⟨f0, f1, f2, f3, f4, f5⟩⟩⟩ := PNL.cells HI)
            | (go_at_call 46; refine (HME.out _ (HI.go (by repeat (first | exact Below.refl _ _ | apply Below.drew | apply below_drewN | apply below_al))).out.2.2.1.1 (HI.go (by repeat (first | exact Below.refl _ _ | apply Below.drew | apply below_drewN | apply below_al))).out.2.2.1.2.2).mono ?_; rintro e w3 ⟨M, n, rfl, hr, hb⟩; replace HI := HI.go2 (by repeat (first | exact Below.refl _ _ | apply Below.drew | apply below_drewN | apply below_al)) hb; clear hb; have HM := At.rb2 (q := mr) hr; have m1 := hr.1; have m2 := hr.2.1; clear hr; obtain ⟨⟨⟨p1, p2, p3, p4, p5, p6⟩, ⟨q1, q2, q3, q4, q5⟩⟩, ⟨⟨s0, s1, s2, s3, s4, s5⟩, ⟨f0, f1, f2, f3, f4, f5⟩⟩⟩ := PNL.cells HI)
            | (go_at_call 47; refine (HBI.out _ _ _ (HI.go (by repeat (first | exact Below.refl _ _ | apply Below.drew | apply below_drewN | apply below_al))).out.2.2.1.1 (HM.go (by repeat (first | exact Below.refl _ _ | apply Below.drew | apply below_drewN | apply below_al))).out.2 (HI.go (by repeat (first | exact Below.refl _ _ | apply Below.drew | apply below_drewN | apply below_al))).out.2.2.2.1).mono ?_; rintro e w4 ⟨L, l, rfl, hbt, hb⟩; replace HM := HM.go2 (by repeat (first | exact Below.refl _ _ | apply Below.drew | apply below_drewN | apply below_al)) hb; replace HI := HI.go2 (by repeat (first | exact Below.refl _ _ | apply Below.drew | apply below_drewN | apply below_al)) hb; clear hb; have HL := At.bt2 hbt; have l1 := hbt.1; have l2 := hbt.2.1; clear hbt; obtain ⟨⟨⟨p1, p2, p3, p4, p5, p6⟩, ⟨q1, q2, q3, q4, q5⟩⟩, ⟨⟨s0, s1, s2, s3, s4, s5⟩, ⟨f0, f1, f2, f3, f4, f5⟩⟩⟩ := PNL.cells HI; obtain ⟨⟨m3, m4, m5, m6, m7⟩, -⟩ := HM.out)
            | (go_at_call 48; refine (HSU.out _ _ _ (HI.go (by repeat (first | exact Below.refl _ _ | apply Below.drew | apply below_drewN | apply below_al))).out.2.2.1.2.1 (HL.go (by repeat (first | exact Below.refl _ _ | apply Below.drew | apply below_drewN | apply below_al))).out).mono ?_; rintro e w5 ⟨D, k, rfl, hr, hb⟩; replace HM := HM.go2 (by repeat (first | exact Below.refl _ _ | apply Below.drew | apply below_drewN | apply below_al)) hb; replace HI := HI.go2 (by repeat (first | exact Below.refl _ _ | apply Below.drew | apply below_drewN | apply below_al)) hb; clear hb; have HD := At.rb2 (q := dr) hr; have HD0 := Lib.hid hr; have d1 := hr.1; have d2 := hr.2.1; clear hr; obtain ⟨⟨⟨p1, p2, p3, p4, p5, p6⟩, ⟨q1, q2, q3, q4, q5⟩⟩, ⟨⟨s0, s1, s2, s3, s4, s5⟩, ⟨f0, f1, f2, f3, f4, f5⟩⟩⟩ := PNL.cells HI; obtain ⟨⟨m3, m4, m5, m6, m7⟩, -⟩ := HM.out))
          refine bodyPost_ret (v := .tuple #[.agg #[.bool false, .slice none 0 0, .bool false, .slice none 0 0, .bool false], .bool false, .int .i64 43]) (by simp [results, Tryd.results26, go_sem, s0, s1, s2, s3, s4, s5, f0, f1, f2, f3, f4]) rfl (HBAD.out _ _ ⟨none, 0, none, 0, rfl, RT.nil _ _ _ (by omega), RT.nil _ _ _ (by omega), ?_⟩)
          exact below_al (below_set5 HI.out.2.2.2.2 (by omega) _ _ _ _ _) _
    · have HBAD := Lib.hid (fun e w' h => nar_bad (w := w) (e := e) (w' := w') (xs := xs) (ys := ys) (zs := zs) (r := r) (t := t) (u := u) (n := checkP zs u) (by unfold narO; rw [beq_eq_false_iff_ne.2 h2]; simp) (by unfold narE; rw [if_neg (by simp [h1]), if_pos h2]) h)
      have hnB : (checkP zs u != 0) = true := by rw [bne_iff_ne]; exact h2
      rw [h1] at HCK
      unfold ruV at *
      clear hsx hsy hsz hlx hlz h1 h2 HME
      generalize checkP zs u = nz at *
      go_enter Tryd.func26, Tryd.ntmps26
      go_wp2_with (first
        | (go_at_call 22; refine (HCK.out _ (HI.go (by repeat (first | exact Below.refl _ _ | apply Below.drew | apply below_drewN | apply below_al))).out.2.2.1.1 (HI.go (by repeat (first | exact Below.refl _ _ | apply Below.drew | apply below_drewN | apply below_al))).out.2.2.1.2.1 (HI.go (by repeat (first | exact Below.refl _ _ | apply Below.drew | apply below_drewN | apply below_al))).out.2.2.2.1).mono ?_; rintro e w1 ⟨rfl, hb⟩; replace HI := HI.go2 (by repeat (first | exact Below.refl _ _ | apply Below.drew | apply below_drewN | apply below_al)) hb; clear hb; obtain ⟨⟨⟨p1, p2, p3, p4, p5, p6⟩, ⟨q1, q2, q3, q4, q5⟩⟩, ⟨⟨s0, s1, s2, s3, s4, s5⟩, ⟨f0, f1, f2, f3, f4, f5⟩⟩⟩ := PNL.cells HI)
        | (go_at_call 41; refine (HCP.out _ (HI.go (by repeat (first | exact Below.refl _ _ | apply Below.drew | apply below_drewN | apply below_al))).out.2.2.1.2.2).mono ?_; rintro e w2 ⟨rfl, hb⟩; replace HI := HI.go2 (by repeat (first | exact Below.refl _ _ | apply Below.drew | apply below_drewN | apply below_al)) hb; clear hb; obtain ⟨⟨⟨p1, p2, p3, p4, p5, p6⟩, ⟨q1, q2, q3, q4, q5⟩⟩, ⟨⟨s0, s1, s2, s3, s4, s5⟩, ⟨f0, f1, f2, f3, f4, f5⟩⟩⟩ := PNL.cells HI)
        | (go_at_call 46; refine (HME.out _ (HI.go (by repeat (first | exact Below.refl _ _ | apply Below.drew | apply below_drewN | apply below_al))).out.2.2.1.1 (HI.go (by repeat (first | exact Below.refl _ _ | apply Below.drew | apply below_drewN | apply below_al))).out.2.2.1.2.2).mono ?_; rintro e w3 ⟨M, n, rfl, hr, hb⟩; replace HI := HI.go2 (by repeat (first | exact Below.refl _ _ | apply Below.drew | apply below_drewN | apply below_al)) hb; clear hb; have HM := At.rb2 (q := mr) hr; have m1 := hr.1; have m2 := hr.2.1; clear hr; obtain ⟨⟨⟨p1, p2, p3, p4, p5, p6⟩, ⟨q1, q2, q3, q4, q5⟩⟩, ⟨⟨s0, s1, s2, s3, s4, s5⟩, ⟨f0, f1, f2, f3, f4, f5⟩⟩⟩ := PNL.cells HI)
        | (go_at_call 47; refine (HBI.out _ _ _ (HI.go (by repeat (first | exact Below.refl _ _ | apply Below.drew | apply below_drewN | apply below_al))).out.2.2.1.1 (HM.go (by repeat (first | exact Below.refl _ _ | apply Below.drew | apply below_drewN | apply below_al))).out.2 (HI.go (by repeat (first | exact Below.refl _ _ | apply Below.drew | apply below_drewN | apply below_al))).out.2.2.2.1).mono ?_; rintro e w4 ⟨L, l, rfl, hbt, hb⟩; replace HM := HM.go2 (by repeat (first | exact Below.refl _ _ | apply Below.drew | apply below_drewN | apply below_al)) hb; replace HI := HI.go2 (by repeat (first | exact Below.refl _ _ | apply Below.drew | apply below_drewN | apply below_al)) hb; clear hb; have HL := At.bt2 hbt; have l1 := hbt.1; have l2 := hbt.2.1; clear hbt; obtain ⟨⟨⟨p1, p2, p3, p4, p5, p6⟩, ⟨q1, q2, q3, q4, q5⟩⟩, ⟨⟨s0, s1, s2, s3, s4, s5⟩, ⟨f0, f1, f2, f3, f4, f5⟩⟩⟩ := PNL.cells HI; obtain ⟨⟨m3, m4, m5, m6, m7⟩, -⟩ := HM.out)
        | (go_at_call 48; refine (HSU.out _ _ _ (HI.go (by repeat (first | exact Below.refl _ _ | apply Below.drew | apply below_drewN | apply below_al))).out.2.2.1.2.1 (HL.go (by repeat (first | exact Below.refl _ _ | apply Below.drew | apply below_drewN | apply below_al))).out).mono ?_; rintro e w5 ⟨D, k, rfl, hr, hb⟩; replace HM := HM.go2 (by repeat (first | exact Below.refl _ _ | apply Below.drew | apply below_drewN | apply below_al)) hb; replace HI := HI.go2 (by repeat (first | exact Below.refl _ _ | apply Below.drew | apply below_drewN | apply below_al)) hb; clear hb; have HD := At.rb2 (q := dr) hr; have HD0 := Lib.hid hr; have d1 := hr.1; have d2 := hr.2.1; clear hr; obtain ⟨⟨⟨p1, p2, p3, p4, p5, p6⟩, ⟨q1, q2, q3, q4, q5⟩⟩, ⟨⟨s0, s1, s2, s3, s4, s5⟩, ⟨f0, f1, f2, f3, f4, f5⟩⟩⟩ := PNL.cells HI; obtain ⟨⟨m3, m4, m5, m6, m7⟩, -⟩ := HM.out))
      refine bodyPost_ret (v := .tuple #[.agg #[.bool false, .slice none 0 0, .bool false, .slice none 0 0, .bool false], .bool false, .int .i64 nz]) (by simp [results, Tryd.results26, go_sem, s0, s1, s2, s3, s4, s5, f0, f1, f2, f3, f4]) rfl (HBAD.out _ _ ⟨none, 0, none, 0, rfl, RT.nil _ _ _ (by omega), RT.nil _ _ _ (by omega), ?_⟩)
      exact below_set5 HI.out.2.2.2.2 (by omega) _ _ _ _ _
  · have HBAD := Lib.hid (fun e w' h => nar_bad (w := w) (e := e) (w' := w') (xs := xs) (ys := ys) (zs := zs) (r := r) (t := t) (u := u) (n := ruleE xs r ys t) (by unfold narO; rw [beq_eq_false_iff_ne.2 h1]; simp) (by unfold narE; rw [if_pos h1]) h)
    have hnB : (ruleE xs r ys t != 0) = true := by rw [bne_iff_ne]; exact h1
    unfold ruV at *
    clear hsx hsy hsz hlx hlz h1 HME HCP
    generalize ruleE xs r ys t = nr at *
    go_enter Tryd.func26, Tryd.ntmps26
    go_wp2_with (first
      | (go_at_call 22; refine (HCK.out _ (HI.go (by repeat (first | exact Below.refl _ _ | apply Below.drew | apply below_drewN | apply below_al))).out.2.2.1.1 (HI.go (by repeat (first | exact Below.refl _ _ | apply Below.drew | apply below_drewN | apply below_al))).out.2.2.1.2.1 (HI.go (by repeat (first | exact Below.refl _ _ | apply Below.drew | apply below_drewN | apply below_al))).out.2.2.2.1).mono ?_; rintro e w1 ⟨rfl, hb⟩; replace HI := HI.go2 (by repeat (first | exact Below.refl _ _ | apply Below.drew | apply below_drewN | apply below_al)) hb; clear hb; obtain ⟨⟨⟨p1, p2, p3, p4, p5, p6⟩, ⟨q1, q2, q3, q4, q5⟩⟩, ⟨⟨s0, s1, s2, s3, s4, s5⟩, ⟨f0, f1, f2, f3, f4, f5⟩⟩⟩ := PNL.cells HI)
      | (go_at_call 41; refine (HCP.out _ (HI.go (by repeat (first | exact Below.refl _ _ | apply Below.drew | apply below_drewN | apply below_al))).out.2.2.1.2.2).mono ?_; rintro e w2 ⟨rfl, hb⟩; replace HI := HI.go2 (by repeat (first | exact Below.refl _ _ | apply Below.drew | apply below_drewN | apply below_al)) hb; clear hb; obtain ⟨⟨⟨p1, p2, p3, p4, p5, p6⟩, ⟨q1, q2, q3, q4, q5⟩⟩, ⟨⟨s0, s1, s2, s3, s4, s5⟩, ⟨f0, f1, f2, f3, f4, f5⟩⟩⟩ := PNL.cells HI)
      | (go_at_call 46; refine (HME.out _ (HI.go (by repeat (first | exact Below.refl _ _ | apply Below.drew | apply below_drewN | apply below_al))).out.2.2.1.1 (HI.go (by repeat (first | exact Below.refl _ _ | apply Below.drew | apply below_drewN | apply below_al))).out.2.2.1.2.2).mono ?_; rintro e w3 ⟨M, n, rfl, hr, hb⟩; replace HI := HI.go2 (by repeat (first | exact Below.refl _ _ | apply Below.drew | apply below_drewN | apply below_al)) hb; clear hb; have HM := At.rb2 (q := mr) hr; have m1 := hr.1; have m2 := hr.2.1; clear hr; obtain ⟨⟨⟨p1, p2, p3, p4, p5, p6⟩, ⟨q1, q2, q3, q4, q5⟩⟩, ⟨⟨s0, s1, s2, s3, s4, s5⟩, ⟨f0, f1, f2, f3, f4, f5⟩⟩⟩ := PNL.cells HI)
      | (go_at_call 47; refine (HBI.out _ _ _ (HI.go (by repeat (first | exact Below.refl _ _ | apply Below.drew | apply below_drewN | apply below_al))).out.2.2.1.1 (HM.go (by repeat (first | exact Below.refl _ _ | apply Below.drew | apply below_drewN | apply below_al))).out.2 (HI.go (by repeat (first | exact Below.refl _ _ | apply Below.drew | apply below_drewN | apply below_al))).out.2.2.2.1).mono ?_; rintro e w4 ⟨L, l, rfl, hbt, hb⟩; replace HM := HM.go2 (by repeat (first | exact Below.refl _ _ | apply Below.drew | apply below_drewN | apply below_al)) hb; replace HI := HI.go2 (by repeat (first | exact Below.refl _ _ | apply Below.drew | apply below_drewN | apply below_al)) hb; clear hb; have HL := At.bt2 hbt; have l1 := hbt.1; have l2 := hbt.2.1; clear hbt; obtain ⟨⟨⟨p1, p2, p3, p4, p5, p6⟩, ⟨q1, q2, q3, q4, q5⟩⟩, ⟨⟨s0, s1, s2, s3, s4, s5⟩, ⟨f0, f1, f2, f3, f4, f5⟩⟩⟩ := PNL.cells HI; obtain ⟨⟨m3, m4, m5, m6, m7⟩, -⟩ := HM.out)
      | (go_at_call 48; refine (HSU.out _ _ _ (HI.go (by repeat (first | exact Below.refl _ _ | apply Below.drew | apply below_drewN | apply below_al))).out.2.2.1.2.1 (HL.go (by repeat (first | exact Below.refl _ _ | apply Below.drew | apply below_drewN | apply below_al))).out).mono ?_; rintro e w5 ⟨D, k, rfl, hr, hb⟩; replace HM := HM.go2 (by repeat (first | exact Below.refl _ _ | apply Below.drew | apply below_drewN | apply below_al)) hb; replace HI := HI.go2 (by repeat (first | exact Below.refl _ _ | apply Below.drew | apply below_drewN | apply below_al)) hb; clear hb; have HD := At.rb2 (q := dr) hr; have HD0 := Lib.hid hr; have d1 := hr.1; have d2 := hr.2.1; clear hr; obtain ⟨⟨⟨p1, p2, p3, p4, p5, p6⟩, ⟨q1, q2, q3, q4, q5⟩⟩, ⟨⟨s0, s1, s2, s3, s4, s5⟩, ⟨f0, f1, f2, f3, f4, f5⟩⟩⟩ := PNL.cells HI; obtain ⟨⟨m3, m4, m5, m6, m7⟩, -⟩ := HM.out))
    refine bodyPost_ret (v := .tuple #[.agg #[.bool false, .slice none 0 0, .bool false, .slice none 0 0, .bool false], .bool false, .int .i64 nr]) (by simp [results, Tryd.results26, go_sem, s0, s1, s2, s3, s4, s5, f0, f1, f2, f3, f4]) rfl (HBAD.out _ _ ⟨none, 0, none, 0, rfl, RT.nil _ _ _ (by omega), RT.nil _ _ _ (by omega), ?_⟩)
    exact below_set5 HI.out.2.2.2.2 (by omega) _ _ _ _ _
end Go.Proofs.YtidjmbmnfnnleaaDoor

