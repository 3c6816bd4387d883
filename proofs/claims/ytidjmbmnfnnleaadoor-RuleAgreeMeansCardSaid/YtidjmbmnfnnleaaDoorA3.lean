/-
  Rules: on which paths two rules agree: plain facts.
-/
import Derived.Test.YtidjmbmnfnnleaaDoorA2
namespace Go.Proofs.YtidjmbmnfnnleaaDoor
set_option linter.unusedSimpArgs false
set_option linter.unusedVariables false
open Go.RowKit
open Pm

/-- the state of Agree: a pattern within both left sides, and what becomes of the right sides -/
def AG (xs : List ByteArray) (r : Bool) (ys : List ByteArray) (t : Bool) (zs : List ByteArray) (u : Bool) (vs : List ByteArray) (v : Bool) (q : Bool) (l f s : List ByteArray) : Prop :=
  (withinOk insB l xs q r = true ∧ withinOk insB l zs q u = true) ∧ (carE xs r l q ys t = 0 ∧ carE zs u l q vs v = 0) ∧ (carL xs r l q ys t = f ∧ carL zs u l q vs v = s) ∧ (carR xs r l q ys t = q ∧ carR zs u l q vs v = q)
theorem AG.parts {xs ys zs vs l f s : List ByteArray} {r t u v q : Bool} (h : AG xs r ys t zs u vs v q l f s) : checkP l q = 0 ∧ checkP f q = 0 ∧ checkP s q = 0 := by
  obtain ⟨⟨w1, w2⟩, ⟨c1, c2⟩, ⟨f1, s1⟩, r1, r2⟩ := h
  have h1 := (car_sb c1).2
  have h2 := (car_sb c2).2
  rw [f1, r1] at h1
  rw [s1, r2] at h2
  refine ⟨?_, h1, h2⟩
  unfold withinOk at w1
  rw [Bool.and_eq_true, beq_iff_eq] at w1
  exact w1.1
theorem AG.es {xs ys zs vs l f s : List ByteArray} {r t u v q : Bool} (h : AG xs r ys t zs u vs v q l f s) (hl : f.length = s.length) : ES l f s := by
  obtain ⟨p1, p2, p3⟩ := h.parts
  obtain ⟨⟨w1, w2⟩, ⟨c1, c2⟩, ⟨f1, s1⟩, r1, r2⟩ := h
  have a1 := (bnd_sb w1).count
  have a2 := (car_sb c1).1.count
  have b1 := (bnd_sb w2).count
  have b2 := (car_sb c2).1.count
  rw [f1] at a2
  rw [s1] at b2
  exact ⟨⟨parts_all (check_zero p1).2.2, parts_all (check_zero p2).2.2, parts_all (check_zero p3).2.2⟩, by omega, by omega, hl⟩
theorem AG.fix {xs ys zs vs l f s : List ByteArray} {r t u v q : Bool} (h : AG xs r ys t zs u vs v q l f s) {c : ByteArray} (k : Nat) (hc : comp c.data.toList = true) :
    AG xs r ys t zs u vs v q (fixB c k l) (fixB c k f) (fixB c k s) := by
  obtain ⟨⟨w1, w2⟩, ⟨c1, c2⟩, ⟨f1, s1⟩, r1, r2⟩ := h
  obtain ⟨d1, d2, d3⟩ := fix_car (k := k) hc w1 c1
  obtain ⟨e1, e2, e3⟩ := fix_car (k := k) hc w2 c2
  exact ⟨⟨(fix_within hc w1).1, (fix_within hc w2).1⟩, ⟨d1, e1⟩, ⟨by rw [d2, f1], by rw [e2, s1]⟩, by rw [d3, r1], by rw [e3, r2]⟩
theorem eqz_check {q : Bool} : ∀ (n : Nat) (l f s : List ByteArray), ES l f s → (∀ (c : ByteArray) (k : Nat) (l : List ByteArray), comp c.data.toList = true → checkP l q = 0 → checkP (fixB c k l) q = 0) → checkP l q = 0 → (eqz n l f s).2 = true → checkP (eqz n l f s).1 q = 0
  | 0, l, f, s, _, _, _, h => by cases h
  | n + 1, l, f, s, hE, hf, hc, h => by
    cases hs : stp f s with
    | none => rw [eqz_end hs]; exact hc
    | some p =>
      obtain ⟨k, x, y⟩ := p
      cases hd : detO x y with
      | false => rw [eqz_bad hs hd] at h; cases h
      | true =>
        obtain ⟨hcc, hk, _⟩ := hE.lt hs hd
        rw [eqz_step hs hd] at h ⊢
        exact eqz_check n _ _ _ (hE.fix hcc hk).1 hf (hf _ _ _ hcc hc) h
theorem check_of_parts {xs : List ByteArray} {r : Bool} (h1 : 0 < xs.length) (h2 : xs.length = 1 → r = true) (h3 : xs.length ≤ 12) (h4 : partsOk xs = true) : checkP xs r = 0 := by
  unfold checkP
  rw [if_neg, if_neg (by rw [h4]; decide), if_neg (by omega)]
  rintro (e | ⟨e1, e2⟩)
  · omega
  · rw [h2 e1] at e2; cases e2
theorem fix_checkP {q : Bool} (c : ByteArray) (k : Nat) (l : List ByteArray) (hc : comp c.data.toList = true) (h : checkP l q = 0) : checkP (fixB c k l) q = 0 := by
  obtain ⟨h1, h2, h3⟩ := check_zero h
  refine check_of_parts (by rw [fix_len]; exact h1) (fun e => ?_) (by rw [fix_len]; exact h2) ?_
  · rw [fix_len] at e
    cases q with
    | true => rfl
    | false =>
      unfold checkP at h
      rw [if_pos (.inr ⟨e, rfl⟩)] at h
      cases h
  · have hp := fix_part hc k l (parts_all h3)
    cases l with
    | nil => simp at h1
    | cons x xs =>
      unfold partsOk at h3
      rw [Bool.and_eq_true] at h3
      have e := fix_lit (c := c) (k := k) (xs := xs) (comp_42 h3.1)
      rw [e] at hp ⊢
      show (comp x.data.toList && (fixB c k xs).all partB) = true
      rw [h3.1, List.all_eq_true.2 (fun z hz => hp z (by simp [hz]))]
      rfl

/-- what Agree answers -/
def agG (xs : List ByteArray) (r : Bool) (ys : List ByteArray) (t : Bool) (zs : List ByteArray) (u : Bool) (vs : List ByteArray) (v : Bool) : Bool :=
  (chkE xs r ys t zs u vs v == 0) && (meetOk xs zs r u && ((carE xs r (meetL xs zs) (r && u) ys t == 0) && (carE zs u (meetL xs zs) (r && u) vs v == 0)))
def agE (xs : List ByteArray) (r : Bool) (ys : List ByteArray) (t : Bool) (zs : List ByteArray) (u : Bool) (vs : List ByteArray) (v : Bool) : Int :=
  if chkE xs r ys t zs u vs v ≠ 0 then chkE xs r ys t zs u vs v else if meetOk xs zs r u = false then 0 else if carE xs r (meetL xs zs) (r && u) ys t ≠ 0 then 43 else carE zs u (meetL xs zs) (r && u) vs v
def eqT (l f s : List ByteArray) : List ByteArray × Bool := if f.length = s.length then eqz (countB stB f + 1) l f s else ([], false)
def agZ (xs : List ByteArray) (r : Bool) (ys : List ByteArray) (t : Bool) (zs : List ByteArray) (u : Bool) (vs : List ByteArray) (v : Bool) : List ByteArray × Bool :=
  if agG xs r ys t zs u vs v = true then eqT (meetL xs zs) (carL xs r (meetL xs zs) (r && u) ys t) (carL zs u (meetL xs zs) (r && u) vs v) else ([], false)
theorem ag_parts {xs ys zs vs : List ByteArray} {r t u v : Bool} : agG xs r ys t zs u vs v = true ↔ chkE xs r ys t zs u vs v = 0 ∧ meetOk xs zs r u = true ∧ carE xs r (meetL xs zs) (r && u) ys t = 0 ∧ carE zs u (meetL xs zs) (r && u) vs v = 0 := by
  unfold agG
  rw [Bool.and_eq_true, Bool.and_eq_true, Bool.and_eq_true, beq_iff_eq, beq_iff_eq, beq_iff_eq]
theorem ag_start {xs ys zs vs : List ByteArray} {r t u v : Bool} (h : agG xs r ys t zs u vs v = true) :
    AG xs r ys t zs u vs v (r && u) (meetL xs zs) (carL xs r (meetL xs zs) (r && u) ys t) (carL zs u (meetL xs zs) (r && u) vs v) := by
  obtain ⟨h1, h2, h3, h4⟩ := ag_parts.1 h
  obtain ⟨k1, k2⟩ := chk_zero.1 h1
  obtain ⟨w1, w2⟩ := meet_within h2
  have e1 := (ruleE_zero.1 k1).2.2.2
  have e2 := (ruleE_zero.1 k2).2.2.2
  have a1 := (car_sb h3).1
  have a2 := (car_sb h4).1
  rw [← e1] at a1
  rw [← e2] at a2
  have b1 := (bnd_sb w1).rest a1
  have b2 := (bnd_sb w2).rest a2
  rw [e1] at b1
  rw [e2] at b2
  refine ⟨⟨w1, w2⟩, ⟨h3, h4⟩, ⟨rfl, rfl⟩, ?_, ?_⟩
  · rw [← e1] at b1 ⊢; exact b1.symm
  · rw [← e2] at b2 ⊢; exact b2.symm

/-- what a rule makes of a path that a narrowed left side is filled to -/
theorem car_fwd {xs ys ms cs L m : List ByteArray} {r t q : Bool} (h0 : ruleE xs r ys t = 0) (w : withinOk insB ms xs q r = true) (c : carE xs r ms q ys t = 0) (h : Fil ms q cs L) (k : Fil (carL xs r ms q ys t) (carR xs r ms q ys t) cs m) :
    fwdO xs r ys t (joinB L) = true ∧ fwdT xs r ys t (joinB L) = joinB m := by
  have hr := ruleE_zero.1 h0
  obtain ⟨ds, h6, h7⟩ := ((bnd_sb w).fil (parts_all (check_zero hr.1).2.2) cs L).1 h
  obtain ⟨ds', h8, h9⟩ := ((car_sb c).1.fil (parts_all (check_zero hr.2.1).2.2) cs m).1 k
  rw [SFil.fn h8 h6] at h9
  exact fwd_mk h0 h7 h9

theorem ag_means {xs ys zs vs : List ByteArray} {r t u v : Bool} {p : ByteArray} (he : agE xs r ys t zs u vs v = 0) :
    (fwdO xs r ys t p && (fwdO zs u vs v p && decide (fwdT xs r ys t p = fwdT zs u vs v p))) = ((agZ xs r ys t zs u vs v).2 && matchOk mpOk (agZ xs r ys t zs u vs v).1 (r && u) p) := by
  have hk : chkE xs r ys t zs u vs v = 0 := by
    unfold agE at he
    by_cases h : chkE xs r ys t zs u vs v = 0
    · exact h
    · rw [if_pos h] at he; exact absurd he h
  obtain ⟨k1, k2⟩ := chk_zero.1 hk
  have mm := meet_means xs zs r u p
  cases hm : meetOk xs zs r u with
  | false =>
    have hg : agG xs r ys t zs u vs v = false := by unfold agG; rw [hm]; simp
    have e : agZ xs r ys t zs u vs v = ([], false) := by unfold agZ; rw [if_neg (by rw [hg]; decide)]
    have := mm.2 hm
    rw [e, fwd_match k1, fwd_match k2, ← Bool.and_assoc, this]
    rfl
  | true =>
    have hcs : carE xs r (meetL xs zs) (r && u) ys t = 0 ∧ carE zs u (meetL xs zs) (r && u) vs v = 0 := by
      unfold agE at he
      rw [if_neg (by simp [hk]), if_neg (by simp [hm])] at he
      by_cases h : carE xs r (meetL xs zs) (r && u) ys t = 0
      · rw [if_neg (by simp [h])] at he; exact ⟨h, he⟩
      · rw [if_pos h] at he; cases he
    have hg := ag_parts.2 ⟨hk, hm, hcs.1, hcs.2⟩
    have hA := ag_start hg
    have hP := hA.parts
    have e : agZ xs r ys t zs u vs v = eqT (meetL xs zs) (carL xs r (meetL xs zs) (r && u) ys t) (carL zs u (meetL xs zs) (r && u) vs v) := by unfold agZ; rw [if_pos hg]
    rw [e]
    obtain ⟨⟨w1, w2⟩, ⟨c1, c2⟩, _, r1, r2⟩ := hA
    rw [Bool.eq_iff_iff, Bool.and_eq_true, Bool.and_eq_true, Bool.and_eq_true, decide_eq_true_eq]
    constructor
    · rintro ⟨h1, h2, h3⟩
      have hmm : matchOk mpOk (meetL xs zs) (r && u) p = true := by
        rw [(mm.1 hm).2, ← fwd_match k1, ← fwd_match k2, h1, h2]
        rfl
      obtain ⟨_, hf, hj⟩ := match_fil hmm
      obtain ⟨m1, hm1⟩ := hf.kinds (ys := carL xs r (meetL xs zs) (r && u) ys t) (by rw [(bnd_sb w1).count, (car_sb c1).1.count])
      obtain ⟨m2, hm2⟩ := hf.kinds (ys := carL zs u (meetL xs zs) (r && u) vs v) (by rw [(bnd_sb w2).count, (car_sb c2).1.count])
      have f1 := car_fwd k1 w1 c1 hf (by rw [r1]; exact hm1)
      have f2 := car_fwd k2 w2 c2 hf (by rw [r2]; exact hm2)
      rw [hj] at f1 f2
      rw [f1.2, f2.2] at h3
      have e1 := (fil_fill hP.2.1 hm1).2.2.2.2
      have e2 := (fil_fill hP.2.2 hm2).2.2.2.2
      rw [h3, e2] at e1
      subst e1
      have hlen := fil_eqlen hm1 hm2
      have hE : ES (meetL xs zs) (carL xs r (meetL xs zs) (r && u) ys t) (carL zs u (meetL xs zs) (r && u) vs v) := AG.es (ag_start hg) hlen
      unfold eqT
      rw [if_pos hlen]
      obtain ⟨z1, cs, z2⟩ := (eqz_means (r := (r && u)) (L := compsB p) _ _ _ _ (Nat.lt_succ_self _) hE).2 ⟨_, _, hf, hm1, hm2⟩
      refine ⟨z1, ?_⟩
      have := fil_match (eqz_check _ _ _ _ hE fix_checkP hP.1 z1) z2
      rw [hj] at this
      exact this
    · rintro ⟨h1, h2⟩
      by_cases hlen : (carL xs r (meetL xs zs) (r && u) ys t).length = (carL zs u (meetL xs zs) (r && u) vs v).length
      · unfold eqT at h1 h2
        rw [if_pos hlen] at h1 h2
        have hE : ES (meetL xs zs) (carL xs r (meetL xs zs) (r && u) ys t) (carL zs u (meetL xs zs) (r && u) vs v) := AG.es (ag_start hg) hlen
        obtain ⟨_, hf, hj⟩ := match_fil h2
        obtain ⟨cs, m, g1, g2, g3⟩ := (eqz_means (r := (r && u)) (L := compsB p) _ _ _ _ (Nat.lt_succ_self _) hE).1 ⟨h1, _, hf⟩
        have f1 := car_fwd k1 w1 c1 g1 (by rw [r1]; exact g2)
        have f2 := car_fwd k2 w2 c2 g1 (by rw [r2]; exact g3)
        rw [hj] at f1 f2
        exact ⟨f1.1, f2.1, by rw [f1.2, f2.2]⟩
      · unfold eqT at h1
        rw [if_neg hlen] at h1
        cases h1

/-- the sizes at the start -/
theorem sumB_cons (x : ByteArray) (xs : List ByteArray) : sumB (x :: xs) = x.size + sumB xs := by simp [sumB]
theorem sumB_app (xs ys : List ByteArray) : sumB (xs ++ ys) = sumB xs + sumB ys := by simp [sumB]
theorem sum_drop (xs : List ByteArray) (k : Nat) : sumB (xs.drop k) ≤ sumB xs := by
  have h := sumB_app (xs.take k) (xs.drop k)
  rw [List.take_append_drop] at h
  omega
theorem nrw_size (a b : ByteArray) : (nrw a b).size ≤ a.size + b.size := by
  unfold nrw
  split
  · omega
  · split
    · omega
    · exact Nat.zero_le _
theorem mz_sum : ∀ (us vs : List ByteArray), sumB (mzAll us vs) ≤ sumB us + sumB vs
  | [], vs => by simp [mzAll, sumB]
  | x :: us, [] => by simp [mzAll]
  | x :: us, y :: vs => by
    have ih := mz_sum us vs
    have h := nrw_size x y
    have e : mzAll (x :: us) (y :: vs) = nrw x y :: mzAll us vs := by simp [mzAll]
    rw [e, sumB_cons, sumB_cons, sumB_cons]
    omega
theorem meet_sum (xs zs : List ByteArray) : sumB (meetL xs zs) ≤ sumB xs + sumB zs := by
  unfold meetL
  split
  · have := mz_sum zs xs; omega
  · exact mz_sum xs zs
theorem ag_size {xs ys zs vs : List ByteArray} {r t u v : Bool} (h : agG xs r ys t zs u vs v = true) (hx : sumB xs ≤ 300) (hy : sumB ys ≤ 300) (hz : sumB zs ≤ 300) (hv : sumB vs ≤ 300) :
    SZ 2400 (meetL xs zs) (carL xs r (meetL xs zs) (r && u) ys t) (carL zs u (meetL xs zs) (r && u) vs v) := by
  obtain ⟨h1, h2, h3, h4⟩ := ag_parts.1 h
  obtain ⟨w1, w2⟩ := meet_within h2
  have hM := meet_sum xs zs
  have tM := tails_sum (meetL xs zs)
  have hMs : ∀ y ∈ meetL xs zs, y.size ≤ 300 := meet_sz h2 (fun x hx' => by have := sum_mem hx'; omega) (fun z hz' => by have := sum_mem hz'; omega)
  have a1 := (sb_tails (bnd_sb w1)).2
  have a2 := (sb_tails (car_sb h3).1).1
  have b1 := (sb_tails (bnd_sb w2)).2
  have b2 := (sb_tails (car_sb h4).1).1
  have ty := tails_sum ys
  have tv := tails_sum vs
  have sf : ∀ x ∈ carL xs r (meetL xs zs) (r && u) ys t, x.size ≤ 300 + 300 := sub_sz (fun x hx' => by have := sum_mem hx'; omega) (bnd_sz hMs)
  have ss : ∀ x ∈ carL zs u (meetL xs zs) (r && u) vs v, x.size ≤ 300 + 300 := sub_sz (fun x hx' => by have := sum_mem hx'; omega) (bnd_sz hMs)
  refine ⟨⟨fun x hx' _ => ?_, fun x hx' _ => ?_⟩, ⟨fun x hx' _ => ?_, fun x hx' _ => ?_⟩, by omega, fun x hx' => ?_⟩
  · have := sf x hx'; omega
  · have := ss x hx'; omega
  · have := sf x hx'; omega
  · have := ss x hx'; omega
  · have := hMs x hx'; omega
end Go.Proofs.YtidjmbmnfnnleaaDoor

