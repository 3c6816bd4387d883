/-
  Plain facts on filling patterns with captures.
-/
import Derived.Test.YtidjmbmnfnnleaaDoorQ10
import Derived.Test.YtidjmbmnfnnleaaDoorK
namespace Go.Proofs.YtidjmbmnfnnleaaDoor
set_option linter.unusedSimpArgs false
set_option linter.unusedVariables false
open Go.RowKit
open Pm

/-- the components that captures make of parts -/
def flC (st : ByteArray → Bool) (tl : ByteArray → ByteArray) : List ByteArray → List ByteArray → List ByteArray
  | [], _ => []
  | x :: xs, cs => if st x = true then (cs.headD ⟨#[]⟩ ++ tl x) :: flC st tl xs cs.tail else x :: flC st tl xs cs
/-- whether the captures of the parts are components -/
def flOk (st : ByteArray → Bool) : List ByteArray → List ByteArray → Bool
  | [], _ => true
  | x :: xs, cs => if st x = true then comp (cs.headD ⟨#[]⟩).data.toList && flOk st xs cs.tail else flOk st xs cs
theorem flC_len (st : ByteArray → Bool) (tl : ByteArray → ByteArray) : ∀ (xs cs : List ByteArray), (flC st tl xs cs).length = xs.length
  | [], _ => rfl
  | x :: xs, cs => by
    unfold flC
    split
    · rw [List.length_cons, flC_len st tl xs cs.tail, List.length_cons]
    · rw [List.length_cons, flC_len st tl xs cs, List.length_cons]
theorem flC_agree {xs : List ByteArray} (h : ∀ x ∈ xs, partB x = true) : ∀ cs, flC starOk sufB xs cs = flC stB tlB xs cs := by
  induction xs with
  | nil => intro cs; rfl
  | cons x xs ih =>
    intro cs
    have e := star_agree (h x (by simp))
    have ih' := ih (fun y hy => h y (by simp [hy]))
    unfold flC
    rw [e]
    by_cases hs : stB x = true
    · have hsu : sufB x = tlB x := by unfold sufB; rw [e, if_pos hs]
      rw [if_pos hs, if_pos hs, ih', hsu]
    · rw [if_neg hs, if_neg hs, ih']
theorem flOk_agree {xs : List ByteArray} (h : ∀ x ∈ xs, partB x = true) : ∀ cs, flOk starOk xs cs = flOk stB xs cs := by
  induction xs with
  | nil => intro cs; rfl
  | cons x xs ih =>
    intro cs
    have e := star_agree (h x (by simp))
    have ih' := ih (fun y hy => h y (by simp [hy]))
    unfold flOk
    rw [e, ih', ih']

/-- the capture of Rest -/
def lastC (st : ByteArray → Bool) (xs cs : List ByteArray) : ByteArray := (cs.drop (countB st xs)).headD ⟨#[]⟩
def wildB (st : ByteArray → Bool) (xs : List ByteArray) (r : Bool) : Nat := countB st xs + if r = true then 1 else 0
def fillOk (st : ByteArray → Bool) (xs : List ByteArray) (r : Bool) (cs : List ByteArray) : Bool :=
  decide (cs.length = wildB st xs r) && (flOk st xs cs && (!r || (spB (lastC st xs cs).data.toList).all (fun x => comp x.data.toList)))
def fillL (st : ByteArray → Bool) (tl : ByteArray → ByteArray) (xs : List ByteArray) (r : Bool) (cs : List ByteArray) : List ByteArray :=
  flC st tl xs cs ++ if r = true then [lastC st xs cs] else []
/-- what Fill hands back -/
def fillE (xs : List ByteArray) (r : Bool) (cs : List ByteArray) : Int := if checkP xs r = 0 then (if fillOk stB xs r cs = true then 0 else 32) else checkP xs r
def fillT (xs : List ByteArray) (r : Bool) (cs : List ByteArray) : ByteArray := if fillE xs r cs = 0 then joinB (fillL stB tlB xs r cs) else ⟨#[]⟩

theorem join_app : ∀ (a b : List (List UInt8)), b ≠ [] → Lib.join (a ++ b) [47] = Lib.join (a ++ [Lib.join b [47]]) [47]
  | [], b, hb => by rw [List.nil_append, List.nil_append, Lib.join_one]
  | x :: a, b, hb => by
    have ih := join_app a b hb
    rw [List.cons_append, List.cons_append]
    cases a with
    | nil =>
      cases b with
      | nil => exact absurd rfl hb
      | cons y b =>
        rw [List.nil_append, List.nil_append, Lib.join_cons, Lib.join_cons]
        refine congrArg _ ?_
        rw [Lib.join_cons]
        simp [Lib.joinTail]
    | cons z a =>
      rw [List.cons_append, List.cons_append, Lib.join_cons, Lib.join_cons]
      rw [List.cons_append, List.cons_append, Lib.join_cons, Lib.join_cons] at ih
      refine congrArg _ ?_
      have key : ∀ l : List (List UInt8), Lib.joinTail [47] (z :: l) = 47 :: (z ++ Lib.joinTail [47] l) := fun l => by simp [Lib.joinTail]
      rw [key, key, ih]

/-- the components of the last capture, or the capture: one text -/
theorem joinB_rest (l : List ByteArray) (x : ByteArray) : joinB (l ++ spB x.data.toList) = joinB (l ++ [x]) := by
  unfold joinB joinL datj
  refine congrArg (fun t => mkB (47 :: 47 :: t)) ?_
  rw [List.map_append, List.map_append]
  have e : (spB x.data.toList).map (·.data.toList) = sp x.data.toList := by
    unfold spB
    rw [List.map_map]
    have : ((fun x : ByteArray => x.data.toList) ∘ mkB) = id := by funext l; exact mkB_data l
    rw [this, List.map_id]
  rw [e, join_app _ _ (sp_ne _), join_sp]
  rfl

theorem drop_cons {xs : List ByteArray} {k : Nat} {x : ByteArray} (h : xs[k]? = some x) : xs.drop k = x :: xs.drop (k + 1) := by
  obtain ⟨hk, e⟩ := List.getElem?_eq_some_iff.1 h
  rw [List.drop_eq_getElem_cons hk, e]
theorem count_cons (st : ByteArray → Bool) (x : ByteArray) (xs : List ByteArray) : countB st (x :: xs) = (if st x = true then 1 else 0) + countB st xs := by
  unfold countB
  by_cases h : st x = true
  · rw [List.filter_cons_of_pos h, if_pos h, List.length_cons]; omega
  · rw [List.filter_cons_of_neg h, if_neg h]; omega

/-- what the loop of Fill knows -/
def FI (st : ByteArray → Bool) (tl : ByteArray → ByteArray) (xs cs : List ByteArray) (k : Nat) (ds done : List ByteArray) : Prop :=
  done.length = k ∧ done ++ flC st tl (xs.drop k) ds = flC st tl xs cs ∧ flOk st (xs.drop k) ds = flOk st xs cs ∧ lastC st (xs.drop k) ds = lastC st xs cs ∧
    ∃ j, ds = cs.drop j
theorem FI.start (st : ByteArray → Bool) (tl : ByteArray → ByteArray) (xs cs : List ByteArray) : FI st tl xs cs 0 cs [] := ⟨rfl, rfl, rfl, rfl, 0, rfl⟩
theorem FI.part {st : ByteArray → Bool} {tl : ByteArray → ByteArray} {xs cs : List ByteArray} {k : Nat} {ds done : List ByteArray} {x : ByteArray} (h : FI st tl xs cs k ds done) (hx : xs[k]? = some x) (hs : st x = false) :
    FI st tl xs cs (k + 1) ds (done ++ [x]) ∧ countB st (xs.drop k) = countB st (xs.drop (k + 1)) := by
  obtain ⟨h1, h2, h3, h4, h5⟩ := h
  have e := drop_cons hx
  refine ⟨⟨by simp [h1], ?_, ?_, ?_, h5⟩, ?_⟩
  · rw [← h2, e]
    conv => rhs; unfold flC
    rw [if_neg (by rw [hs]; decide)]
    simp
  · rw [← h3, e]
    conv => rhs; unfold flOk
    rw [if_neg (by rw [hs]; decide)]
  · rw [← h4, e]
    unfold lastC
    rw [count_cons, if_neg (by rw [hs]; decide), Nat.zero_add]
  · rw [e, count_cons, if_neg (by rw [hs]; decide), Nat.zero_add]
theorem FI.star {st : ByteArray → Bool} {tl : ByteArray → ByteArray} {xs cs : List ByteArray} {k : Nat} {y : ByteArray} {ds done : List ByteArray} {x : ByteArray} (h : FI st tl xs cs k (y :: ds) done) (hx : xs[k]? = some x) (hs : st x = true) :
    (comp y.data.toList = true → FI st tl xs cs (k + 1) ds (done ++ [y ++ tl x])) ∧ (comp y.data.toList = false → flOk st xs cs = false) ∧ countB st (xs.drop k) = countB st (xs.drop (k + 1)) + 1 := by
  obtain ⟨h1, h2, h3, h4, j, h5⟩ := h
  have e := drop_cons hx
  refine ⟨fun hc => ⟨by simp [h1], ?_, ?_, ?_, j + 1, ?_⟩, fun hc => ?_, ?_⟩
  · rw [← h2, e]
    conv => rhs; unfold flC
    rw [if_pos hs]
    simp
  · rw [← h3, e]
    conv => rhs; unfold flOk
    rw [if_pos hs]
    simp [hc]
  · rw [← h4, e]
    unfold lastC
    rw [count_cons, if_pos hs, Nat.add_comm 1 (countB st (xs.drop (k + 1))), List.drop_succ_cons]
  · rw [← List.drop_drop, ← h5]
    rfl
  · rw [← h3, e]
    unfold flOk
    rw [if_pos hs]
    simp [hc]
  · rw [e, count_cons, if_pos hs]; omega
theorem FI.done {st : ByteArray → Bool} {tl : ByteArray → ByteArray} {xs cs : List ByteArray} {k : Nat} {ds done : List ByteArray} (h : FI st tl xs cs k ds done) (hk : xs.length ≤ k) :
    done = flC st tl xs cs ∧ flOk st xs cs = true ∧ ds.headD ⟨#[]⟩ = lastC st xs cs ∧ countB st (xs.drop k) = 0 := by
  obtain ⟨h1, h2, h3, h4, _⟩ := h
  have e : xs.drop k = [] := List.drop_eq_nil_of_le hk
  rw [e] at h2 h3 h4
  refine ⟨?_, h3.symm, ?_, by rw [e]; rfl⟩
  · rw [← h2]
    simp [flC]
  · rw [← h4]
    rfl
theorem FI.mem {st : ByteArray → Bool} {tl : ByteArray → ByteArray} {xs cs : List ByteArray} {k : Nat} {ds done : List ByteArray} (h : FI st tl xs cs k ds done) {y : ByteArray} (hy : y ∈ ds) : y ∈ cs := by
  obtain ⟨_, _, _, _, j, rfl⟩ := h
  exact List.mem_of_mem_drop hy
theorem flC_size {st : ByteArray → Bool} {tl : ByteArray → ByteArray} (htl : ∀ x, (tl x).size ≤ x.size) : ∀ {xs cs : List ByteArray}, (∀ x ∈ xs, x.size ≤ 5000) → (∀ x ∈ cs, x.size ≤ 5000) → ∀ x ∈ flC st tl xs cs, x.size ≤ 10000
  | [], cs, _, _, x, hx => by cases hx
  | y :: xs, cs, h1, h2, x, hx => by
    unfold flC at hx
    have hy := h1 y (by simp)
    split at hx
    · rcases List.mem_cons.1 hx with rfl | hx
      · have hh : (cs.headD ⟨#[]⟩).size ≤ 5000 := by
          cases cs with
          | nil => decide
          | cons c cs => exact h2 c (by simp)
        have := htl y
        rw [ByteArray.size_append]
        omega
      · exact flC_size htl (fun z hz => h1 z (by simp [hz])) (fun z hz => h2 z (List.mem_of_mem_tail hz)) x hx
    · rcases List.mem_cons.1 hx with rfl | hx
      · omega
      · exact flC_size htl (fun z hz => h1 z (by simp [hz])) h2 x hx
end Go.Proofs.YtidjmbmnfnnleaaDoor

