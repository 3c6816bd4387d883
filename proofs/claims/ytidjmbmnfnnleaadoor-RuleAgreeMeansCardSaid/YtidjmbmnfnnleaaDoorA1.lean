/-
  Rules: what a determined capture makes of a pattern, of its bindings and of its captures: plain facts.
-/
import Derived.Test.YtidjmbmnfnnleaaDoorR10
namespace Go.Proofs.YtidjmbmnfnnleaaDoor
set_option linter.unusedSimpArgs false
set_option linter.unusedVariables false
open Go.RowKit
open Pm

/-- a pattern's parts, the wildcard of a number filled -/
def fixB (c : ByteArray) : Nat → List ByteArray → List ByteArray
  | _, [] => []
  | 0, x :: xs => if stB x = true then (c ++ tlB x) :: xs else x :: fixB c 0 xs
  | k + 1, x :: xs => if stB x = true then x :: fixB c k xs else x :: fixB c (k + 1) xs
theorem fix_nil (c : ByteArray) (k : Nat) : fixB c k [] = [] := by cases k <;> rfl
theorem fix_lit {c x : ByteArray} {k : Nat} {xs : List ByteArray} (hs : stB x = false) : fixB c k (x :: xs) = x :: fixB c k xs := by
  cases k <;> (conv => lhs; unfold fixB) <;> rw [if_neg (by rw [hs]; decide)]
theorem fix_zero {c x : ByteArray} {xs : List ByteArray} (hs : stB x = true) : fixB c 0 (x :: xs) = (c ++ tlB x) :: xs := by
  conv => lhs; unfold fixB
  rw [if_pos hs]
theorem fix_succ {c x : ByteArray} {k : Nat} {xs : List ByteArray} (hs : stB x = true) : fixB c (k + 1) (x :: xs) = x :: fixB c k xs := by
  conv => lhs; unfold fixB
  rw [if_pos hs]
theorem cnt_lit {x : ByteArray} {xs : List ByteArray} (hs : stB x = false) : countB stB (x :: xs) = countB stB xs := by rw [count_cons, if_neg (by rw [hs]; decide)]; omega
theorem cnt_star {x : ByteArray} {xs : List ByteArray} (hs : stB x = true) : countB stB (x :: xs) = countB stB xs + 1 := by rw [count_cons, if_pos hs]; omega
theorem fix_len (c : ByteArray) : ∀ (k : Nat) (xs : List ByteArray), (fixB c k xs).length = xs.length
  | k, [] => by rw [fix_nil]
  | 0, x :: xs => by
    cases hs : stB x with
    | true => rw [fix_zero hs]; rfl
    | false => rw [fix_lit hs, List.length_cons, fix_len c 0 xs]; rfl
  | k + 1, x :: xs => by
    cases hs : stB x with
    | true => rw [fix_succ hs, List.length_cons, fix_len c k xs]; rfl
    | false => rw [fix_lit hs, List.length_cons, fix_len c (k + 1) xs]; rfl
theorem fix_out (c : ByteArray) : ∀ (k : Nat) (xs : List ByteArray), countB stB xs ≤ k → fixB c k xs = xs
  | k, [], _ => fix_nil c k
  | 0, x :: xs, h => by
    cases hs : stB x with
    | true => rw [cnt_star hs] at h; omega
    | false => rw [cnt_lit hs] at h; rw [fix_lit hs, fix_out c 0 xs h]
  | k + 1, x :: xs, h => by
    cases hs : stB x with
    | true => rw [cnt_star hs] at h; rw [fix_succ hs, fix_out c k xs (by omega)]
    | false => rw [cnt_lit hs] at h; rw [fix_lit hs, fix_out c (k + 1) xs h]
theorem comp_pos {c : ByteArray} (hc : comp c.data.toList = true) : 0 < c.size := by
  rcases Nat.eq_zero_or_pos c.size with h | h
  · rw [bytes_nil h] at hc; cases hc
  · exact h
theorem st_fixed {c t : ByteArray} (hc : comp c.data.toList = true) : stB (c ++ t) = false := by rw [st_app (comp_pos hc)]; exact comp_42 hc
theorem fix_count {c : ByteArray} (hc : comp c.data.toList = true) : ∀ (k : Nat) (xs : List ByteArray), k < countB stB xs → countB stB (fixB c k xs) + 1 = countB stB xs
  | k, [], h => by simp [countB] at h
  | 0, x :: xs, h => by
    cases hs : stB x with
    | true => rw [fix_zero hs, cnt_lit (st_fixed hc), cnt_star hs]
    | false => rw [cnt_lit hs] at h; rw [fix_lit hs, cnt_lit hs, cnt_lit hs, fix_count hc 0 xs h]
  | k + 1, x :: xs, h => by
    cases hs : stB x with
    | true => rw [cnt_star hs] at h; rw [fix_succ hs, cnt_star hs, cnt_star hs, fix_count hc k xs (by omega)]
    | false => rw [cnt_lit hs] at h; rw [fix_lit hs, cnt_lit hs, cnt_lit hs, fix_count hc (k + 1) xs h]
theorem part_of_comp {x : ByteArray} (h : comp x.data.toList = true) : partB x = true := by
  unfold partB
  rw [h, Bool.or_true]
theorem fixed_comp {c x : ByteArray} (hc : comp c.data.toList = true) (hx : partB x = true) (hs : stB x = true) : comp (c ++ tlB x).data.toList = true := by
  rw [app_data]
  exact comp_app hc (star_tail hx hs)
theorem fix_part {c : ByteArray} (hc : comp c.data.toList = true) : ∀ (k : Nat) (xs : List ByteArray), (∀ x ∈ xs, partB x = true) → ∀ x ∈ fixB c k xs, partB x = true
  | k, [], _ => by rw [fix_nil]; intro x hx; cases hx
  | 0, x :: xs, h => by
    intro y hy
    cases hs : stB x with
    | true =>
      rw [fix_zero hs] at hy
      rcases List.mem_cons.1 hy with rfl | hy
      · exact part_of_comp (fixed_comp hc (h x (by simp)) hs)
      · exact h y (by simp [hy])
    | false =>
      rw [fix_lit hs] at hy
      rcases List.mem_cons.1 hy with rfl | hy
      · exact h y (by simp)
      · exact fix_part hc 0 xs (fun z hz => h z (by simp [hz])) y hy
  | k + 1, x :: xs, h => by
    intro y hy
    cases hs : stB x with
    | true =>
      rw [fix_succ hs] at hy
      rcases List.mem_cons.1 hy with rfl | hy
      · exact h y (by simp)
      · exact fix_part hc k xs (fun z hz => h z (by simp [hz])) y hy
    | false =>
      rw [fix_lit hs] at hy
      rcases List.mem_cons.1 hy with rfl | hy
      · exact h y (by simp)
      · exact fix_part hc (k + 1) xs (fun z hz => h z (by simp [hz])) y hy

/-- captures with one more -/
def insC (c : ByteArray) : Nat → List ByteArray → List ByteArray
  | 0, cs => c :: cs
  | k + 1, [] => [c]
  | k + 1, d :: ds => d :: insC c k ds
theorem fix_fil {c : ByteArray} (hc : comp c.data.toList = true) : ∀ {k : Nat} {xs cs l : List ByteArray} {r : Bool}, k < countB stB xs → Fil (fixB c k xs) r cs l → Fil xs r (insC c k cs) l
  | k, [], cs, l, r, h, _ => by simp [countB] at h
  | 0, x :: xs, cs, l, r, h, hf => by
    cases hs : stB x with
    | true =>
      rw [fix_zero hs, Fil.lit (st_fixed hc)] at hf
      obtain ⟨l', rfl, h2⟩ := hf
      exact (Fil.star hs).2 ⟨c, cs, l', rfl, hc, rfl, h2⟩
    | false =>
      rw [cnt_lit hs] at h
      rw [fix_lit hs, Fil.lit hs] at hf
      obtain ⟨l', rfl, h2⟩ := hf
      exact (Fil.lit hs).2 ⟨l', rfl, fix_fil hc h h2⟩
  | k + 1, x :: xs, cs, l, r, h, hf => by
    cases hs : stB x with
    | true =>
      rw [cnt_star hs] at h
      rw [fix_succ hs, Fil.star hs] at hf
      obtain ⟨d, ds, l', rfl, h1, rfl, h2⟩ := hf
      exact (Fil.star hs).2 ⟨d, insC c k ds, l', rfl, h1, rfl, fix_fil hc (by omega) h2⟩
    | false =>
      rw [cnt_lit hs] at h
      rw [fix_lit hs, Fil.lit hs] at hf
      obtain ⟨l', rfl, h2⟩ := hf
      exact (Fil.lit hs).2 ⟨l', rfl, fix_fil hc h h2⟩
theorem fil_fix {c : ByteArray} : ∀ {k : Nat} {xs ds l : List ByteArray} {r : Bool}, comp c.data.toList = true → k < countB stB xs → Fil xs r ds l → ds[k]? = some c → Fil (fixB c k xs) r (ds.eraseIdx k) l
  | k, [], ds, l, r, hc, h, _, _ => by simp [countB] at h
  | 0, x :: xs, ds, l, r, hc, h, hf, hk => by
    cases hs : stB x with
    | true =>
      rw [Fil.star hs] at hf
      obtain ⟨d, ds', l', rfl, h1, rfl, h2⟩ := hf
      have : d = c := by simpa using hk
      subst this
      rw [fix_zero hs, Fil.lit (st_fixed hc)]
      exact ⟨l', rfl, h2⟩
    | false =>
      rw [cnt_lit hs] at h
      rw [Fil.lit hs] at hf
      obtain ⟨l', rfl, h2⟩ := hf
      rw [fix_lit hs, Fil.lit hs]
      exact ⟨l', rfl, fil_fix hc h h2 hk⟩
  | k + 1, x :: xs, ds, l, r, hc, h, hf, hk => by
    cases hs : stB x with
    | true =>
      rw [cnt_star hs] at h
      rw [Fil.star hs] at hf
      obtain ⟨d, ds', l', rfl, h1, rfl, h2⟩ := hf
      rw [fix_succ hs, Fil.star hs]
      exact ⟨d, ds'.eraseIdx k, l', rfl, h1, rfl, fil_fix hc (by omega) h2 (by simpa using hk)⟩
    | false =>
      rw [cnt_lit hs] at h
      rw [Fil.lit hs] at hf
      obtain ⟨l', rfl, h2⟩ := hf
      rw [fix_lit hs, Fil.lit hs]
      exact ⟨l', rfl, fil_fix hc h h2 hk⟩

/-- bindings, the wildcard of a number filled -/
def fixS (c : ByteArray) : Nat → List (List ByteArray × Bool) → List (List ByteArray × Bool)
  | _, [] => []
  | k, p :: bs => if k < countB stB p.1 then (fixB c k p.1, p.2) :: bs else p :: fixS c (k - countB stB p.1) bs
theorem fixS_len (c : ByteArray) : ∀ (k : Nat) (bs : List (List ByteArray × Bool)), (fixS c k bs).length = bs.length
  | k, [] => by cases k <;> rfl
  | k, p :: bs => by
    unfold fixS
    split
    · rfl
    · rw [List.length_cons, fixS_len c _ bs]; rfl
theorem fix_sb {c : ByteArray} (hc : comp c.data.toList = true) : ∀ {k : Nat} {xs ys : List ByteArray} {r t : Bool} {bs : List (List ByteArray × Bool)}, (∀ x ∈ xs, partB x = true) → Sb xs r bs ys t → Sb xs r (fixS c k bs) (fixB c k ys) t
  | k, [], ys, false, t, bs, _, h => by
    obtain ⟨rfl, rfl, rfl⟩ := h
    rw [fix_nil]
    exact ⟨by cases k <;> rfl, rfl, rfl⟩
  | k, [], ys, true, t, bs, _, h => by
    obtain ⟨rfl, h0, hp⟩ := h
    refine ⟨?_, fun e => h0 (List.eq_nil_of_length_eq_zero (by rw [← fix_len c k ys, e]; rfl)), fix_part hc k ys hp⟩
    unfold fixS
    split
    · rfl
    · rename_i hk
      simp only at hk
      rw [fix_out c k ys (by omega)]
      cases (k - countB stB ys) <;> rfl
  | k, x :: xs, ys, r, t, bs, hp, h => by
    cases hs : stB x with
    | true =>
      rw [Sb.star hs] at h
      obtain ⟨z, bs', ys', rfl, hz, rfl, h2⟩ := h
      have hz0 := part_pos hz
      have hp' : ∀ x ∈ xs, partB x = true := fun z hz => hp z (by simp [hz])
      cases hsz : stB z with
      | true =>
        have e1 : stB (z ++ tlB x) = true := by rw [st_app hz0]; exact hsz
        have ec : countB stB [z] = 1 := by rw [count_one, if_pos hsz]
        match k with
        | 0 =>
          rw [fix_zero e1]
          refine (Sb.star hs).2 ⟨c ++ tlB z, bs', ys', ?_, part_of_comp (fixed_comp hc hz hsz), by rw [tl_app2 hz0, app_assoc], h2⟩
          unfold fixS
          rw [if_pos (by simp only [ec]; omega)]
          simp only
          rw [fix_zero hsz]
        | k + 1 =>
          rw [fix_succ e1]
          refine (Sb.star hs).2 ⟨z, fixS c k bs', _, ?_, hz, rfl, fix_sb hc hp' h2⟩
          conv => lhs; unfold fixS
          rw [if_neg (by simp only [ec]; omega)]
          simp only [ec]
          rfl
      | false =>
        have e1 : stB (z ++ tlB x) = false := by rw [st_app hz0]; exact hsz
        have ec : countB stB [z] = 0 := by rw [count_one, if_neg (by rw [hsz]; decide)]
        rw [fix_lit e1]
        refine (Sb.star hs).2 ⟨z, fixS c k bs', _, ?_, hz, rfl, fix_sb hc hp' h2⟩
        conv => lhs; unfold fixS
        rw [if_neg (by simp only [ec]; omega)]
        simp only [ec]
        rfl
    | false =>
      rw [Sb.lit hs] at h
      obtain ⟨ys', rfl, h2⟩ := h
      rw [fix_lit hs]
      exact (Sb.lit hs).2 ⟨_, rfl, fix_sb hc (fun z hz => hp z (by simp [hz])) h2⟩

/-- substituting is a function -/
theorem Sb.fn : ∀ {xs ys zs : List ByteArray} {r t u : Bool} {bs : List (List ByteArray × Bool)}, Sb xs r bs ys t → Sb xs r bs zs u → ys = zs ∧ t = u
  | [], ys, zs, false, t, u, bs, h, k => by
    obtain ⟨_, h1, h2⟩ := h
    obtain ⟨_, k1, k2⟩ := k
    exact ⟨by rw [h1, k1], by rw [h2, k2]⟩
  | [], ys, zs, true, t, u, bs, h, k => by
    have e : [(ys, t)] = [(zs, u)] := h.1.symm.trans k.1
    simp only [List.cons.injEq, Prod.mk.injEq, and_true] at e
    exact e
  | x :: xs, ys, zs, r, t, u, bs, h, k => by
    cases hs : stB x with
    | true =>
      rw [Sb.star hs] at h k
      obtain ⟨z, bs', ys', e1, _, rfl, h2⟩ := h
      obtain ⟨z2, bs2, zs', e2, _, rfl, k2⟩ := k
      rw [e1] at e2
      simp only [List.cons.injEq, Prod.mk.injEq, and_true] at e2
      obtain ⟨rfl, rfl⟩ := e2
      obtain ⟨rfl, rfl⟩ := Sb.fn h2 k2
      exact ⟨rfl, rfl⟩
    | false =>
      rw [Sb.lit hs] at h k
      obtain ⟨ys', rfl, h2⟩ := h
      obtain ⟨zs', rfl, k2⟩ := k
      obtain ⟨rfl, rfl⟩ := Sb.fn h2 k2
      exact ⟨rfl, rfl⟩
theorem Sb.okay : ∀ {xs ys : List ByteArray} {r t : Bool} {bs : List (List ByteArray × Bool)}, Sb xs r bs ys t → bs.length = wildB stB xs r ∧ BO (countB stB xs) bs bs.length
  | [], ys, false, t, bs, h => by
    obtain ⟨rfl, _, _⟩ := h
    exact ⟨rfl, fun i p hi => absurd hi (by simp)⟩
  | [], ys, true, t, bs, h => by
    obtain ⟨rfl, h0, hp⟩ := h
    refine ⟨rfl, fun i p hi hq => ?_⟩
    have hi0 : i = 0 := by simpa using hi
    subst hi0
    have hq' : (ys, t) = p := by simpa using hq
    subst hq'
    rw [decide_eq_true (by simp [countB]), bind_last]
    rw [if_neg (fun e => by
      have h1 := h0 (List.eq_nil_of_length_eq_zero e.1)
      have h2 : t = false := e.2
      rw [h1] at h2
      cases h2)]
    exact List.all_eq_true.2 hp
  | x :: xs, ys, r, t, bs, h => by
    cases hs : stB x with
    | true =>
      rw [Sb.star hs] at h
      obtain ⟨z, bs', ys', rfl, hz, rfl, h2⟩ := h
      obtain ⟨i1, i2⟩ := Sb.okay h2
      refine ⟨?_, fun i p hi hq => ?_⟩
      · rw [List.length_cons, i1]
        unfold wildB
        rw [cnt_star hs]
        omega
      · cases i with
        | zero =>
          have hq' : ([z], false) = p := by simpa using hq
          subst hq'
          rw [decide_eq_false (by rw [cnt_star hs]; omega), bind_one]
          exact hz
        | succ i =>
          have := i2 i p (by simpa using hi) (by simpa using hq)
          rw [cnt_star hs]
          simpa using this
    | false =>
      rw [Sb.lit hs] at h
      obtain ⟨ys', rfl, h2⟩ := h
      obtain ⟨i1, i2⟩ := Sb.okay h2
      have hw : wildB stB (x :: xs) r = wildB stB xs r := by unfold wildB; rw [cnt_lit hs]
      rw [hw, cnt_lit hs]
      exact ⟨i1, i2⟩
/-- what is substituted by the relation is what Substitute answers -/
theorem Sb.sub {xs ys : List ByteArray} {r t : Bool} {bs : List (List ByteArray × Bool)} (h : Sb xs r bs ys t) (hx : checkP xs r = 0) (hy : ys.length ≤ 12) : subE xs r bs = 0 ∧ subL xs r bs = ys ∧ subR xs r bs = t := by
  obtain ⟨h1, h2⟩ := h.okay
  obtain ⟨e1, e2⟩ := h.fn (sb_of xs r bs h1 h2)
  have h0 : subE xs r bs = 0 := by
    unfold subE
    rw [if_neg (by simp [hx]), if_neg (by simp [h1]), if_neg (by rw [bsOk_iff.2 h2]; decide), if_neg]
    rintro ⟨hr, h12⟩
    rw [e1, if_pos hr, List.length_append, flC_len] at hy
    omega
  exact ⟨h0, (h.fn (sub_sb h0)).1.symm, (h.fn (sub_sb h0)).2.symm⟩

/-- a rule's pattern narrowed, and narrowed further by a determined capture -/
theorem fix_within {c : ByteArray} {k : Nat} {xs ms : List ByteArray} {r u : Bool} (hc : comp c.data.toList = true) (h : withinOk insB ms xs u r = true) :
    withinOk insB (fixB c k ms) xs u r = true ∧ bndB xs r (fixB c k ms) u = fixS c k (bndB xs r ms u) := by
  have hx : checkP xs r = 0 ∧ checkP ms u = 0 := by
    unfold withinOk at h
    rw [Bool.and_eq_true, Bool.and_eq_true, beq_iff_eq, beq_iff_eq] at h
    exact ⟨h.2.1, h.1⟩
  have hp := parts_all (check_zero hx.1).2.2
  have h1 := fix_sb hc (k := k) hp (bnd_sb h)
  obtain ⟨s1, s2, s3⟩ := h1.sub hx.1 (by rw [fix_len]; exact (check_zero hx.2).2.1)
  obtain ⟨w1, w2⟩ := sub_bind s1
  rw [s2, s3] at w1 w2
  refine ⟨w1, ?_⟩
  conv => lhs; unfold bndB
  rw [if_pos w1]
  exact w2
theorem fix_car {c : ByteArray} {k : Nat} {xs ms ys : List ByteArray} {r u t : Bool} (hc : comp c.data.toList = true) (h : withinOk insB ms xs u r = true) (h0 : carE xs r ms u ys t = 0) :
    carE xs r (fixB c k ms) u ys t = 0 ∧ carL xs r (fixB c k ms) u ys t = fixB c k (carL xs r ms u ys t) ∧ carR xs r (fixB c k ms) u ys t = carR xs r ms u ys t := by
  have hs := car_zero h0
  obtain ⟨hy, _⟩ := sub_zero hs
  have hp := parts_all (check_zero hy).2.2
  obtain ⟨c1, c2⟩ := car_sb h0
  have h1 := fix_sb hc (k := k) hp c1
  obtain ⟨s1, s2, s3⟩ := h1.sub hy (by rw [fix_len]; exact (check_zero c2).2.1)
  rw [← (fix_within (k := k) hc h).2] at s1 s2 s3
  refine ⟨?_, s2, s3⟩
  unfold carE
  rw [if_pos s1]
end Go.Proofs.YtidjmbmnfnnleaaDoor

