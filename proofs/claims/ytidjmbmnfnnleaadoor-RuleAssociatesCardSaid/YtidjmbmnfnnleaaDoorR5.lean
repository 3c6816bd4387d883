/-
  Plain facts: the intersection lies within both patterns; narrowing to what lies within is that.
-/
import Derived.Test.YtidjmbmnfnnleaaDoorMD
import Derived.Test.YtidjmbmnfnnleaaDoorQ23
namespace Go.Proofs.YtidjmbmnfnnleaaDoor
set_option linter.unusedSimpArgs false
set_option linter.unusedVariables false
open Go.RowKit
open Pm

theorem ins_self (a : ByteArray) : insB a a = true := by unfold insB; rw [if_pos rfl]
theorem ins_anti {a b : ByteArray} (h : insB a b = true) (k : insB b a = true) : a = b := by
  by_cases e : a = b
  · exact e
  · have hb : stB b = true := by
      cases hs : stB b with
      | true => rfl
      | false => exact absurd (ins_lit hs h) e
    have ha : stB a = true := by
      cases hs : stB a with
      | true => rfl
      | false => exact absurd (ins_lit hs k).symm e
    unfold insB at h k
    rw [if_neg e, if_neg (by rw [hb]; decide), if_pos ha, suf_iff] at h
    rw [if_neg (fun e2 => e e2.symm), if_neg (by rw [ha]; decide), if_pos hb, suf_iff] at k
    have e1 : (tlB a).data.toList = (tlB b).data.toList := by
      obtain ⟨c, hc⟩ := h
      have h1 := k.length_le
      have h2 : c = [] := by
        have := congrArg List.length hc
        rw [List.length_append] at this
        exact List.eq_nil_of_length_eq_zero (by omega)
      rw [h2, List.nil_append] at hc
      exact hc.symm
    rw [← mkB_back a, ← mkB_back b, star_head ha, star_head hb, e1]
theorem ins_trans {a b c : ByteArray} (h : insB a b = true) (k : insB b c = true) : insB a c = true := by
  by_cases e : b = c
  · rw [← e]; exact h
  · cases hc : stB c with
    | false => rw [← ins_lit hc k]; exact h
    | true =>
      obtain ⟨d, hd, e2⟩ := ins_cut hc k
      cases hb : stB b with
      | false => rw [ins_lit hb h]; exact k
      | true =>
        obtain ⟨f, hf, e3⟩ := ins_cut hb h
        have hbt := star_head hb
        by_cases hac : a = c
        · rw [hac]; exact ins_self c
        · have hk := k
          unfold insB at hk
          rw [if_neg e, if_neg (by rw [hc]; decide), if_pos hb, suf_iff] at hk
          obtain ⟨g, hg⟩ := hk
          have ea : a.data.toList = (f ++ g) ++ (tlB c).data.toList := by rw [e3, ← hg, List.append_assoc]
          unfold insB
          rw [if_neg hac, if_neg (by rw [hc]; decide)]
          cases ha : stB a with
          | true =>
            rw [if_pos rfl, suf_iff]
            cases f with
            | nil => exact absurd rfl hf
            | cons x f =>
              have := star_head ha
              rw [ea] at this
              have h2 := (List.cons.inj (by simpa using this)).2
              exact ⟨f ++ g, by rw [List.append_assoc]; exact h2⟩
          | false =>
            rw [if_neg (by decide)]
            refine (mp_star hc).2 ⟨f ++ g, ?_, ea⟩
            intro e4
            exact hf (List.append_eq_nil_iff.1 e4).1
theorem nrw_in {a b : ByteArray} (h : nrwOk a b = true) : insB (nrw a b) a = true ∧ insB (nrw a b) b = true := by
  unfold nrwOk at h
  unfold nrw
  cases h1 : insB a b with
  | true => rw [if_pos rfl]; exact ⟨ins_self a, h1⟩
  | false =>
    rw [h1, Bool.false_or] at h
    rw [if_neg (by decide), if_pos h]
    exact ⟨h, ins_self b⟩
theorem nrw_of {x m : ByteArray} (h : insB m x = true) : nrw m x = m ∧ nrw x m = m ∧ nrwOk m x = true ∧ nrwOk x m = true := by
  unfold nrw nrwOk
  rw [h]
  refine ⟨if_pos rfl, ?_, by simp, by simp⟩
  cases h2 : insB x m with
  | true => rw [if_pos rfl]; exact ins_anti h2 h
  | false => rw [if_neg (by decide), if_pos rfl]

theorem lensIn_iff {n m : Nat} {r t : Bool} : lensIn n m r t = true ↔ (m ≤ n ∧ (t = false → r = false ∧ n = m) ∧ (t = true → n = m → r = true)) := by
  unfold lensIn
  cases t <;> cases r <;> simp <;> omega
/-- the intersection of a long and a short pattern lies within both -/
theorem mz_within {us vs : List ByteArray} {r t : Bool} (hl : vs.length ≤ us.length) (hu : checkP us r = 0) (hv : checkP vs t = 0) (hco : (vs.length < us.length → t = true) ∧ (vs.length = us.length → r = t)) (h : okOf nrwOk (us.zip vs) = true) :
    withinOk insB (mzAll us vs) us (r && t) r = true ∧ withinOk insB (mzAll us vs) vs (r && t) t = true := by
  have hck := (mz_means (s := ⟨#[]⟩) hl hu hv hco h).1
  have hlen := mzAll_len hl
  unfold withinOk insideOk
  rw [hck, hu, hv]
  simp only [BEq.rfl, Bool.true_and, Bool.and_eq_true]
  refine ⟨⟨?_, ok_iff.2 fun k z x hz hx => ?_⟩, ⟨?_, ok_iff.2 fun k z y hz hy => ?_⟩⟩
  · rw [hlen]
    rcases Nat.lt_or_ge vs.length us.length with g | g
    · rw [hco.1 g]
      unfold lensIn
      cases r <;> simp
    · have e : vs.length = us.length := by omega
      rw [hco.2 e]
      unfold lensIn
      cases t <;> simp
  · obtain ⟨x', hx', e⟩ := mzAll_back hl hz
    obtain rfl := Option.some.inj (hx'.symm.trans hx)
    cases hy : vs[k]? with
    | none => rw [hy] at e; subst e; exact ins_self _
    | some y =>
      rw [hy] at e
      have e2 : z = nrw x' y := e
      rw [e2]
      exact (nrw_in (ok_iff.1 h k x' y hx hy)).1
  · rw [hlen]
    rcases Nat.lt_or_ge vs.length us.length with g | g
    · rw [hco.1 g]
      rw [lensIn_iff]
      exact ⟨by omega, fun e => (by cases e), fun _ e => by omega⟩
    · have e : vs.length = us.length := by omega
      rw [hco.2 e, e]
      unfold lensIn
      cases t <;> simp
  · have hk : k < us.length := by have := (List.getElem?_eq_some_iff.1 hz).1; omega
    obtain ⟨x, hx⟩ : ∃ x, us[k]? = some x := ⟨_, List.getElem?_eq_getElem hk⟩
    have e := mzAll_get hl hx
    rw [hz, hy] at e
    have e2 : z = nrw x y := Option.some.inj e
    rw [e2]
    exact (nrw_in (ok_iff.1 h k x y hx hy)).2
theorem meet_within {xs ys : List ByteArray} {r t : Bool} (h : meetOk xs ys r t = true) : withinOk insB (meetL xs ys) xs (r && t) r = true ∧ withinOk insB (meetL xs ys) ys (r && t) t = true := by
  unfold meetOk at h
  unfold meetL
  rw [Bool.and_eq_true, Bool.and_eq_true, Bool.and_eq_true, beq_iff_eq, beq_iff_eq] at h
  obtain ⟨⟨⟨hx, hy⟩, hc⟩, ho⟩ := h
  by_cases hl : xs.length < ys.length
  · rw [if_pos hl] at ho ⊢
    rw [compat_turn, compat_iff (by omega)] at hc
    have := mz_within (by omega) hy hx hc ho
    rw [Bool.and_comm r t]
    exact ⟨this.2, this.1⟩
  · rw [if_neg hl] at ho ⊢
    rw [compat_iff (by omega)] at hc
    exact mz_within (by omega) hx hy hc ho
/-- the intersection with what lies within is that -/
theorem meet_idem {xs zs : List ByteArray} {r u : Bool} (h : withinOk insB zs xs u r = true) : meetOk xs zs r u = true ∧ meetL xs zs = zs ∧ (r && u) = u := by
  unfold withinOk insideOk at h
  rw [Bool.and_eq_true, Bool.and_eq_true, Bool.and_eq_true, beq_iff_eq, beq_iff_eq, lensIn_iff] at h
  obtain ⟨hz, hx, ⟨h1, h2, h3⟩, ho⟩ := h
  rw [ok_iff] at ho
  have hru : (r && u) = u := by
    cases r with
    | true => rfl
    | false => rw [(h2 rfl).1]; rfl
  have hnm : ∀ k z x, zs[k]? = some z → xs[k]? = some x → nrw z x = z ∧ nrw x z = z ∧ nrwOk z x = true ∧ nrwOk x z = true := fun k z x a b => nrw_of (ho k z x a b)
  unfold meetOk meetL
  rw [hz, hx]
  simp only [BEq.rfl, Bool.true_and, Bool.and_eq_true]
  by_cases hl : xs.length < zs.length
  · rw [if_pos hl, if_pos hl]
    refine ⟨⟨?_, ok_iff.2 fun k z x a b => (hnm k z x a b).2.2.1⟩, ?_, hru⟩
    · rw [compat_turn, compat_iff (by omega)]
      refine ⟨fun _ => ?_, fun e => by omega⟩
      cases r with
      | true => rfl
      | false => have := (h2 rfl).2; omega
    · refine List.ext_getElem? fun k => ?_
      rcases Nat.lt_or_ge k zs.length with hk | hk
      · obtain ⟨z, hzk⟩ : ∃ z, zs[k]? = some z := ⟨_, List.getElem?_eq_getElem hk⟩
        rw [mzAll_get (by omega) hzk, hzk]
        cases hxk : xs[k]? with
        | none => rfl
        | some x => exact congrArg some (hnm k z x hzk hxk).1
      · rw [List.getElem?_eq_none (by rw [mzAll_len (by omega)]; exact hk), List.getElem?_eq_none hk]
  · have e : xs.length = zs.length := by omega
    rw [if_neg hl, if_neg hl]
    refine ⟨⟨?_, ok_iff.2 fun k x z a b => (hnm k z x b a).2.2.2⟩, ?_, hru⟩
    · rw [compat_iff (by omega)]
      refine ⟨fun g => by omega, fun _ => ?_⟩
      cases r with
      | true => exact (h3 rfl e.symm).symm
      | false => exact (h2 rfl).1.symm
    · refine List.ext_getElem? fun k => ?_
      rcases Nat.lt_or_ge k xs.length with hk | hk
      · obtain ⟨x, hxk⟩ : ∃ x, xs[k]? = some x := ⟨_, List.getElem?_eq_getElem hk⟩
        obtain ⟨z, hzk⟩ : ∃ z, zs[k]? = some z := ⟨_, List.getElem?_eq_getElem (by omega)⟩
        rw [mzAll_get (by omega) hxk, hzk]
        exact congrArg some (hnm k z x hzk hxk).2.1
      · rw [List.getElem?_eq_none (by rw [mzAll_len (by omega)]; omega), List.getElem?_eq_none (by omega)]
end Go.Proofs.YtidjmbmnfnnleaaDoor

