/-
  Rules: what composed rules make of paths; that composing is associative: plain facts.
-/
import Derived.Test.YtidjmbmnfnnleaaDoorMS
import Derived.Test.YtidjmbmnfnnleaaDoorR9
namespace Go.Proofs.YtidjmbmnfnnleaaDoor
set_option linter.unusedSimpArgs false
set_option linter.unusedVariables false
open Go.RowKit
open Pm

theorem fwd_zero {xs ys : List ByteArray} {r t : Bool} {s : ByteArray} (h : fwdO xs r ys t s = true) : ruleE xs r ys t = 0 := (fwd_of h).1
/-- the composed rule is a rule -/
theorem ch_rule {xs ys zs vs : List ByteArray} {r t u v : Bool} (ho : chO xs r ys t zs u vs v = true) : ruleE (chL xs r ys t zs u vs v) (chLr xs r ys t zs u vs v) (chR xs r ys t zs u vs v) (chRr xs r ys t zs u vs v) = 0 := by
  obtain ⟨hc, hm, h1, h2⟩ := ch_parts.1 ho
  obtain ⟨ha, hb⟩ := chk_zero.1 hc
  have ra := ruleE_zero.1 ha
  have rb := ruleE_zero.1 hb
  have hw := meet_within hm
  have s1 := car_sb h1
  have s2 := car_sb h2
  have m1 := bnd_sb hw.1
  have m2 := bnd_sb hw.2
  unfold chL chLr chR chRr
  rw [if_pos ho, if_pos ho, if_pos ho, if_pos ho]
  have e1 := ra.2.2.2
  have e2 := rb.2.2.2
  subst e1 e2
  refine sb_rule s1.2 s2.2 s1.1 s2.1 ?_ ?_
  · rw [← m1.count, ← m2.count]
  · rw [s1.1.rest m1, s2.1.rest m2]
/-- what RuleChainMeans asks -/
theorem ch_means {xs ys zs vs : List ByteArray} {r t u v : Bool} {s : ByteArray} (he : chE xs r ys t zs u vs v = 0) :
    (chO xs r ys t zs u vs v = false → (fwdO xs r ys t s && fwdO zs u vs v (fwdT xs r ys t s)) = false) ∧
    (chO xs r ys t zs u vs v = true → fwdO (chL xs r ys t zs u vs v) (chLr xs r ys t zs u vs v) (chR xs r ys t zs u vs v) (chRr xs r ys t zs u vs v) s = (fwdO xs r ys t s && fwdO zs u vs v (fwdT xs r ys t s)) ∧
      fwdT (chL xs r ys t zs u vs v) (chLr xs r ys t zs u vs v) (chR xs r ys t zs u vs v) (chRr xs r ys t zs u vs v) s = (if (fwdO xs r ys t s && fwdO zs u vs v (fwdT xs r ys t s)) = true then fwdT zs u vs v (fwdT xs r ys t s) else ⟨#[]⟩)) := by
  have hc : chkE xs r ys t zs u vs v = 0 := by
    unfold chE at he
    by_cases h : chkE xs r ys t zs u vs v = 0
    · exact h
    · rw [if_pos h] at he; exact absurd he h
  obtain ⟨ha, hb⟩ := chk_zero.1 hc
  have ra := ruleE_zero.1 ha
  have rb := ruleE_zero.1 hb
  -- the two steps of a path, by components
  have two : (fwdO xs r ys t s && fwdO zs u vs v (fwdT xs r ys t s)) = true → ∃ d1 d2 l k m, Fil xs r d1 l ∧ Fil ys t d1 k ∧ Fil zs u d2 k ∧ Fil vs v d2 m ∧ s = joinB l ∧ fwdT zs u vs v (fwdT xs r ys t s) = joinB m := by
    intro h
    rw [Bool.and_eq_true] at h
    obtain ⟨_, d1, l, k, h1, h2, h3, _, h5⟩ := fwd_of h.1
    obtain ⟨_, d2, l2, m, k1, k2, k3, k4, k5⟩ := fwd_of h.2
    rw [h5] at k4
    have e : compsB (joinB k) = k := (fil_fill ra.2.1 h2).2.2.2.2
    rw [e] at k4
    subst k4
    exact ⟨d1, d2, l, k, m, h1, h2, k1, k2, h3, k5⟩
  constructor
  · intro ho
    have hm : meetOk ys zs t u = false := by
      cases hm : meetOk ys zs t u with
      | false => rfl
      | true =>
        unfold chE at he
        rw [if_neg (by simp [hc]), if_neg (by simp [hm])] at he
        by_cases h1 : carE ys t (meetL ys zs) (t && u) xs r = 0
        · rw [if_neg (by simp [h1])] at he
          rw [ch_parts.2 ⟨hc, hm, h1, he⟩] at ho
          cases ho
        · rw [if_pos h1] at he; cases he
    cases hx : (fwdO xs r ys t s && fwdO zs u vs v (fwdT xs r ys t s)) with
    | false => rfl
    | true =>
      obtain ⟨d1, d2, l, k, m, h1, h2, h3, h4, h5, h6⟩ := two hx
      have := (meet_means ys zs t u (joinB k)).2 hm
      rw [fil_match ra.2.1 h2, fil_match rb.1 h3] at this
      cases this
  · intro ho
    obtain ⟨_, hm, h1, h2⟩ := ch_parts.1 ho
    have hru := ch_rule ho
    have hw := meet_within hm
    have s1 := (car_sb h1).1
    have s2 := (car_sb h2).1
    have m1 := bnd_sb hw.1
    have m2 := bnd_sb hw.2
    have mk := (meet_means ys zs t u s).1 hm
    unfold chL chLr chR chRr at hru ⊢
    rw [if_pos ho, if_pos ho, if_pos ho, if_pos ho] at hru
    rw [if_pos ho, if_pos ho, if_pos ho, if_pos ho]
    have px := parts_all (check_zero ra.1).2.2
    have py := parts_all (check_zero ra.2.1).2.2
    have pz := parts_all (check_zero rb.1).2.2
    have pv := parts_all (check_zero rb.2.1).2.2
    by_cases hi : (fwdO xs r ys t s && fwdO zs u vs v (fwdT xs r ys t s)) = true
    · rw [if_pos hi, hi]
      obtain ⟨d1, d2, l, k, m, k1, k2, k3, k4, k5, k6⟩ := two hi
      have hmk := ((meet_means ys zs t u (joinB k)).1 hm).2
      rw [fil_match ra.2.1 k2, fil_match rb.1 k3] at hmk
      obtain ⟨hn, f1, f2⟩ := match_fil hmk
      have e : compsB (joinB k) = k := (fil_fill ra.2.1 k2).2.2.2.2
      rw [e] at f1
      obtain ⟨e1, g1, g2⟩ := (m1.fil py _ k).1 f1
      obtain ⟨e2, g3, g4⟩ := (m2.fil pz _ k).1 f1
      rw [g2.inj k2] at g1
      rw [g4.inj k3] at g3
      have fl := (s1.fil px _ l).2 ⟨d1, g1, k1⟩
      have fr := (s2.fil pv _ m).2 ⟨d2, g3, k4⟩
      have := fwd_mk hru fl fr
      rw [k5, this.1, this.2, ← k6, k5]
      exact ⟨rfl, rfl⟩
    · have hi' : (fwdO xs r ys t s && fwdO zs u vs v (fwdT xs r ys t s)) = false := by simpa using hi
      rw [if_neg hi, hi']
      have hO : fwdO (carL ys t (meetL ys zs) (t && u) xs r) (carR ys t (meetL ys zs) (t && u) xs r) (carL zs u (meetL ys zs) (t && u) vs v) (carR zs u (meetL ys zs) (t && u) vs v) s = false := by
        cases hx : fwdO (carL ys t (meetL ys zs) (t && u) xs r) (carR ys t (meetL ys zs) (t && u) xs r) (carL zs u (meetL ys zs) (t && u) vs v) (carR zs u (meetL ys zs) (t && u) vs v) s with
        | false => rfl
        | true =>
          exfalso
          apply hi
          obtain ⟨_, cs, l, m, k1, k2, k3, k4, k5⟩ := fwd_of hx
          obtain ⟨d1, g1, g2⟩ := (s1.fil px cs l).1 k1
          obtain ⟨d2, g3, g4⟩ := (s2.fil pv cs m).1 k2
          -- the middle path
          have hkin : countB stB (carL ys t (meetL ys zs) (t && u) xs r) = countB stB (meetL ys zs) := by rw [s1.count, m1.count]
          have hrest : carR ys t (meetL ys zs) (t && u) xs r = (t && u) := by
            have e1 := ra.2.2.2
            subst e1
            exact s1.rest m1
          obtain ⟨k, hk⟩ := k1.kinds hkin
          rw [hrest] at hk
          obtain ⟨e1, q1, q2⟩ := (m1.fil py cs k).1 hk
          obtain ⟨e2, q3, q4⟩ := (m2.fil pz cs k).1 hk
          rw [SFil.fn q1 g1] at q2
          rw [SFil.fn q3 g3] at q4
          have f1 := fwd_mk ha g2 q2
          have f2 := fwd_mk hb q4 g4
          rw [k3, Bool.and_eq_true, f1.1, f1.2, f2.1]
          exact ⟨rfl, rfl⟩
      exact ⟨hO, fwd_no hO⟩

/-- every pattern has a path -/
theorem fil_some : ∀ (xs : List ByteArray) (r : Bool), ∃ cs l, Fil xs r cs l
  | [], false => ⟨[], [], rfl, rfl⟩
  | [], true => ⟨[⟨#[97]⟩], _, ⟨#[97]⟩, rfl, rfl, by decide⟩
  | x :: xs, r => by
    obtain ⟨cs, l, h⟩ := fil_some xs r
    by_cases hs : stB x = true
    · exact ⟨⟨#[97]⟩ :: cs, _, (Fil.star hs).2 ⟨⟨#[97]⟩, cs, l, rfl, by decide, rfl, h⟩⟩
    · exact ⟨cs, _, (Fil.lit (by simpa using hs)).2 ⟨l, rfl, h⟩⟩
theorem rule_some {xs ys : List ByteArray} {r t : Bool} (h : ruleE xs r ys t = 0) : ∃ s, fwdO xs r ys t s = true := by
  have hr := ruleE_zero.1 h
  have hrt := hr.2.2.2
  subst hrt
  obtain ⟨cs, l, hf⟩ := fil_some xs r
  obtain ⟨m, hm⟩ := hf.kinds hr.2.2.1
  exact ⟨_, (fwd_mk h hf hm).1⟩
/-- patterns that match the same paths are one -/
theorem same_within {xs ys : List ByteArray} {r t : Bool} (hx : checkP xs r = 0) (hy : checkP ys t = 0) (h : ∀ s, matchOk mpOk xs r s = true → matchOk mpOk ys t s = true) : withinOk insB xs ys r t = true :=
  (wit_within hx hy).2 fun n h1 h2 => h _ (wit_own hx (wit_in h1 h2))
theorem within_anti {xs ys : List ByteArray} {r t : Bool} (h : withinOk insB xs ys r t = true) (k : withinOk insB ys xs t r = true) : xs = ys ∧ r = t := by
  unfold withinOk insideOk at h k
  rw [Bool.and_eq_true, Bool.and_eq_true, Bool.and_eq_true, lensIn_iff, ok_iff] at h k
  obtain ⟨_, _, ⟨h1, h2, h3⟩, h4⟩ := h
  obtain ⟨_, _, ⟨k1, k2, k3⟩, k4⟩ := k
  have hl : xs.length = ys.length := by omega
  refine ⟨List.ext_getElem? fun i => ?_, ?_⟩
  · rcases Nat.lt_or_ge i xs.length with hi | hi
    · obtain ⟨x, hx⟩ : ∃ x, xs[i]? = some x := ⟨_, List.getElem?_eq_getElem hi⟩
      obtain ⟨y, hy⟩ : ∃ y, ys[i]? = some y := ⟨_, List.getElem?_eq_getElem (by omega)⟩
      rw [hx, hy, ins_anti (h4 i x y hx hy) (k4 i y x hy hx)]
    · rw [List.getElem?_eq_none hi, List.getElem?_eq_none (by omega)]
  · cases r with
    | true =>
      cases t with
      | true => rfl
      | false => exact (h2 rfl).1
    | false =>
      cases t with
      | true => exact (k2 rfl).1.symm
      | false => rfl
theorem same_pat {xs ys : List ByteArray} {r t : Bool} (hx : checkP xs r = 0) (hy : checkP ys t = 0) (h : ∀ s, matchOk mpOk xs r s = matchOk mpOk ys t s) : xs = ys ∧ r = t :=
  within_anti (same_within hx hy fun s hs => by rw [← h]; exact hs) (same_within hy hx fun s hs => by rw [h]; exact hs)
/-- what is related is matched at the right -/
theorem fwd_right {xs ys : List ByteArray} {r t : Bool} {q : ByteArray} (h0 : ruleE xs r ys t = 0) : matchOk mpOk ys t q = true ↔ ∃ s, fwdO xs r ys t s = true ∧ fwdT xs r ys t s = q := by
  have hr := ruleE_zero.1 h0
  have hrt := hr.2.2.2
  subst hrt
  constructor
  · intro h
    obtain ⟨hn, f1, f2⟩ := match_fil h
    obtain ⟨l, hl⟩ := f1.kinds hr.2.2.1.symm
    have := fwd_mk h0 hl f1
    exact ⟨_, this.1, by rw [this.2, f2]⟩
  · rintro ⟨s, h1, h2⟩
    obtain ⟨_, cs, l, m, k1, k2, k3, k4, k5⟩ := fwd_of h1
    rw [← h2, k5]
    exact fil_match hr.2.1 k2
/-- rules that relate the same paths are one -/
theorem same_rule {xs ys zs vs : List ByteArray} {r t u v : Bool} (h0 : ruleE xs r ys t = 0) (k0 : ruleE zs u vs v = 0) (h : ∀ s, fwdO xs r ys t s = fwdO zs u vs v s ∧ fwdT xs r ys t s = fwdT zs u vs v s) : (xs = zs ∧ r = u) ∧ (ys = vs ∧ t = v) := by
  have hr := ruleE_zero.1 h0
  have kr := ruleE_zero.1 k0
  refine ⟨same_pat hr.1 kr.1 fun s => ?_, same_pat hr.2.1 kr.2.1 fun q => ?_⟩
  · rw [← fwd_match h0, ← fwd_match k0]
    exact (h s).1
  · rw [Bool.eq_iff_iff, fwd_right h0, fwd_right k0]
    constructor
    · rintro ⟨s, h1, h2⟩
      exact ⟨s, by rw [← (h s).1]; exact h1, by rw [← (h s).2]; exact h2⟩
    · rintro ⟨s, h1, h2⟩
      exact ⟨s, by rw [(h s).1]; exact h1, by rw [(h s).2]; exact h2⟩
/-- narrowing to what lies within -/
theorem nar_idem {xs ys zs : List ByteArray} {r t u : Bool} (h0 : ruleE xs r ys t = 0) (hw : withinOk insB zs xs u r = true) :
    narO xs r ys t zs u = (carE xs r zs u ys t == 0) ∧ (carE xs r zs u ys t = 0 → narR xs r ys t zs u = carL xs r zs u ys t ∧ narRr xs r ys t zs u = carR xs r zs u ys t) := by
  obtain ⟨h1, h2, h3⟩ := meet_idem hw
  have hz : checkP zs u = 0 := by
    unfold withinOk at hw
    rw [Bool.and_eq_true, beq_iff_eq] at hw
    exact hw.1
  have ho : narO xs r ys t zs u = (carE xs r zs u ys t == 0) := by
    unfold narO
    rw [h0, hz, h1, h2, h3]
    rfl
  refine ⟨ho, fun hc => ?_⟩
  have ho1 : narO xs r ys t zs u = true := by rw [ho, hc]; rfl
  unfold narR narRr
  rw [if_pos ho1, if_pos ho1, h2, h3]
  exact ⟨rfl, rfl⟩
/-- a call hands back a rule, a truth value and some error -/
def RetN2 (w : World) (L : List ByteArray) (l : Bool) (R : List ByteArray) (q ok : Bool) (e : Ending) (w' : World) : Prop :=
  ∃ n A c B d, e = .returned (.tuple #[.agg #[.bool false, .slice A L.length c, .bool l, .slice B R.length d, .bool q], .bool ok, .int .i64 n]) ∧ RT w' A c L ∧ RT w' B d R ∧ Below w.heap.size w w'
end Go.Proofs.YtidjmbmnfnnleaaDoor

