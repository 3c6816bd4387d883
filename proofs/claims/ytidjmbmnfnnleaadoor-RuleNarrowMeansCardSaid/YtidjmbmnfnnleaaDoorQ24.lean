/-
  The witness of PatternOutside: plain facts, and its walk.
-/
import Derived.Test.YtidjmbmnfnnleaaDoorQ23
namespace Go.Proofs.YtidjmbmnfnnleaaDoor
set_option linter.unusedSimpArgs false
set_option linter.unusedVariables false
open Go.RowKit
open Pm

def starT : ByteArray := ⟨#[42]⟩
/-- a component of the witness -/
def witC (ys : List ByteArray) (i : Nat) (x : ByteArray) : ByteArray := if stB x = true then (if ys[i]? = some (⟨#[81]⟩ ++ tlB x) then ⟨#[82]⟩ ++ tlB x else ⟨#[81]⟩ ++ tlB x) else x
def witAt (xs ys : List ByteArray) (i : Nat) : ByteArray := witC ys i (xs[i]?.getD starT)
def witL (xs ys : List ByteArray) (k : Nat) : List ByteArray := (List.range k).map (witAt xs ys)

theorem witL_len (xs ys : List ByteArray) (k : Nat) : (witL xs ys k).length = k := by simp [witL]
theorem witL_step (xs ys : List ByteArray) (k : Nat) : witL xs ys (k + 1) = witL xs ys k ++ [witAt xs ys k] := by
  unfold witL
  rw [List.range_succ, List.map_append]
  rfl
theorem witL_get {xs ys : List ByteArray} {k i : Nat} (h : i < k) : (witL xs ys k)[i]? = some (witAt xs ys i) := by
  unfold witL
  rw [List.getElem?_map, List.getElem?_range h]
  rfl
theorem starT_st : stB starT = true := by decide
theorem starT_tl : tlB starT = ⟨#[]⟩ := by decide
theorem comp_q {l : List UInt8} (h : l.all isB = true) : comp (81 :: l) = true ∧ comp (82 :: l) = true := by
  unfold comp
  simp only [List.all_cons, h]
  exact ⟨by decide, by decide⟩
theorem witC_comp {ys : List ByteArray} {i : Nat} {x : ByteArray} (hx : partB x = true) : comp (witC ys i x).data.toList = true := by
  unfold witC
  cases hs : stB x with
  | false => rw [if_neg (by decide)]; exact part_name hx hs
  | true =>
    have ht := comp_q (star_tail hx hs)
    rw [if_pos rfl]
    split
    · rw [app_data]; exact ht.2
    · rw [app_data]; exact ht.1
theorem witC_own {ys : List ByteArray} {i : Nat} {x : ByteArray} : mpOk x (witC ys i x) = true := by
  unfold witC
  cases hs : stB x with
  | false => rw [if_neg (by decide), mp_lit hs]
  | true =>
    rw [if_pos rfl, mp_star hs]
    split
    · exact ⟨[82], by simp, by rw [app_data]⟩
    · exact ⟨[81], by simp, by rw [app_data]⟩
theorem app_cancel {c d : UInt8} {t : ByteArray} (h : (⟨#[c]⟩ : ByteArray) ++ t = ⟨#[d]⟩ ++ t) : c = d := by
  have := congrArg (fun z : ByteArray => z.data.toList) h
  simp only [app_data] at this
  simpa using this
/-- what matches the witness's component is as wide as the part -/
theorem witC_ins {ys : List ByteArray} {i : Nat} {x y : ByteArray} (hy : ys[i]? = some y) (hm : mpOk y (witC ys i x) = true) : insB x y = true := by
  unfold insB
  by_cases he : x = y
  · rw [if_pos he]
  rw [if_neg he]
  unfold witC at hm
  cases hx : stB x with
  | false =>
    rw [hx, if_neg (by decide)] at hm
    cases hsy : stB y with
    | false => exact absurd ((mp_lit hsy).1 hm).symm he
    | true => rw [if_neg (by decide), if_neg (by decide)]; exact hm
  | true =>
    rw [hx, if_pos rfl] at hm
    cases hsy : stB y with
    | false =>
      exfalso
      have e := (mp_lit hsy).1 hm
      rw [hy] at e
      by_cases hq : some y = some (⟨#[81]⟩ ++ tlB x)
      · rw [if_pos hq] at e
        have h1 := Option.some.inj hq
        rw [h1] at e
        have := app_cancel e
        revert this
        decide
      · rw [if_neg hq] at e
        exact hq (by rw [e])
    | true =>
      rw [if_neg (by decide), if_pos rfl, suf_iff]
      obtain ⟨a, ha, e⟩ := (mp_star hsy).1 hm
      have key : ∀ c : UInt8, (⟨#[c]⟩ ++ tlB x : ByteArray).data.toList = a ++ (tlB y).data.toList → (tlB y).data.toList <:+ (tlB x).data.toList := by
        intro c hc
        rw [app_data] at hc
        cases a with
        | nil => exact absurd rfl ha
        | cons d a =>
          have : (tlB x).data.toList = a ++ (tlB y).data.toList := (List.cons.inj (show c :: (tlB x).data.toList = d :: (a ++ (tlB y).data.toList) from hc)).2
          exact ⟨a, this.symm⟩
      split at e
      · exact key _ e
      · exact key _ e

theorem witAt_lo {xs ys : List ByteArray} {i : Nat} {x : ByteArray} (h : xs[i]? = some x) : witAt xs ys i = witC ys i x := by
  unfold witAt
  rw [h]
  rfl
theorem starT_part : partB starT = true := by decide
theorem wit_comp {xs ys : List ByteArray} (hp : ∀ x ∈ xs, partB x = true) (i : Nat) : comp (witAt xs ys i).data.toList = true := by
  unfold witAt
  refine witC_comp ?_
  cases h : xs[i]? with
  | none => exact starT_part
  | some x => exact hp x (List.mem_of_getElem? h)
theorem witL_comps {xs ys : List ByteArray} (hp : ∀ x ∈ xs, partB x = true) (k : Nat) : ∀ y ∈ witL xs ys k, comp y.data.toList = true := by
  intro y hy
  unfold witL at hy
  obtain ⟨i, _, rfl⟩ := List.mem_map.1 hy
  exact wit_comp hp i

/-- the path of n components more -/
def witP (xs ys : List ByteArray) (n : Nat) : ByteArray := joinB (witL xs ys (xs.length + n))
theorem wit_path {xs ys : List ByteArray} {r : Bool} {n : Nat} (hc : checkP xs r = 0) (hn : (r = false → n = 0) ∧ (r = true → 0 < n)) :
    pathOk (witP xs ys n).data.toList = true ∧ compsB (witP xs ys n) = witL xs ys (xs.length + n) := by
  have cz := check_zero hc
  have hp := parts_all cz.2.2
  have h2 : 2 ≤ xs.length + n := by
    cases r with
    | true => have := hn.2 rfl; omega
    | false =>
      apply Classical.byContradiction
      intro k
      have := hn.1 rfl
      rw [check_short (.inr ⟨by omega, rfl⟩)] at hc
      cases hc
  have hne : witL xs ys (xs.length + n) ≠ [] := by
    intro e
    have := witL_len xs ys (xs.length + n)
    rw [e] at this
    simp at this
    omega
  exact ⟨joinB_path (by rw [witL_len]; exact h2) (witL_comps hp _), joinB_comps hne (witL_comps hp _)⟩
theorem wit_own {xs ys : List ByteArray} {r : Bool} {n : Nat} (hc : checkP xs r = 0) (hn : (r = false → n = 0) ∧ (r = true → 0 < n)) : matchOk mpOk xs r (witP xs ys n) = true := by
  obtain ⟨h1, h2⟩ := wit_path (ys := ys) hc hn
  unfold matchOk
  rw [h1, hc, h2, lens_iff.2 ⟨by rw [witL_len]; omega, fun e => by rw [witL_len]; have := hn.2 e; omega, fun e => by rw [witL_len]; have := hn.1 e; omega⟩]
  simp only [Bool.true_and, BEq.rfl]
  rw [ok_iff]
  intro k x y hx hy
  have hk := (List.getElem?_eq_some_iff.1 hx).1
  rw [witL_get (by omega), witAt_lo hx] at hy
  rw [← Option.some.inj hy]
  exact witC_own

def witLo (r : Bool) : Nat := if r = true then 1 else 0
def witHi (r : Bool) : Nat := if r = true then 13 else 0
theorem wit_in {r : Bool} {n : Nat} (h1 : witLo r ≤ n) (h2 : n ≤ witHi r) : (r = false → n = 0) ∧ (r = true → 0 < n) := by
  unfold witLo at h1
  unfold witHi at h2
  refine ⟨fun e => ?_, fun e => ?_⟩
  · rw [e, if_neg (by decide)] at h2; omega
  · rw [e, if_pos rfl] at h1; omega
/-- what PatternOutside asks -/
theorem wit_within {xs ys : List ByteArray} {r t : Bool} (hx : checkP xs r = 0) (hy : checkP ys t = 0) :
    withinOk insB xs ys r t = true ↔ ∀ n, witLo r ≤ n → n ≤ witHi r → matchOk mpOk ys t (witP xs ys n) = true := by
  constructor
  · intro h n h1 h2
    exact within_means h (wit_own hx (wit_in h1 h2))
  · intro h
    have key : ∀ n, witLo r ≤ n → n ≤ witHi r → lensOk ys.length (xs.length + n) t = true ∧ okOf mpOk (ys.zip (witL xs ys (xs.length + n))) = true := by
      intro n h1 h2
      have hm := h n h1 h2
      unfold matchOk at hm
      rw [(wit_path hx (wit_in h1 h2)).2, witL_len, Bool.and_eq_true, Bool.and_eq_true] at hm
      exact ⟨hm.1.2, hm.2⟩
    have hlen : lensIn xs.length ys.length r t = true := by
      unfold lensIn
      cases r with
      | false =>
        obtain ⟨l1, l2, l3⟩ := lens_lo (key 0 (by decide) (by decide)).1
        cases t with
        | true => have := l2 rfl; simp; omega
        | false => have := l3 rfl; simp; omega
      | true =>
        obtain ⟨l1, l2, l3⟩ := lens_lo (key 1 (by decide) (by decide)).1
        cases t with
        | true => have := l2 rfl; simp; omega
        | false =>
          exfalso
          have a1 := l3 rfl
          have a2 := (lens_lo (key 13 (by decide) (by decide)).1).2.2 rfl
          omega
    have hle := lensIn_le hlen
    unfold withinOk insideOk
    rw [hx, hy, hlen]
    simp only [Bool.true_and, BEq.rfl]
    have hw : witLo r ≤ witHi r := by unfold witLo witHi; cases r <;> decide
    have ho := (key (witLo r) (Nat.le_refl _) hw).2
    rw [ok_iff] at ho ⊢
    intro i x y hxi hyi
    have hi : i < xs.length := (List.getElem?_eq_some_iff.1 hxi).1
    have := ho i y _ hyi (witL_get (by omega))
    rw [witAt_lo hxi] at this
    exact witC_ins hyi this

theorem tl_size {x : ByteArray} (h : stB x = true) : (tlB x).size + 1 = x.size := by
  have hp := stB_pos h
  rw [Lib.size_eq, tlB_data, List.length_drop, ← Lib.size_eq]
  omega
theorem witC_size (ys : List ByteArray) (i : Nat) (x : ByteArray) : (witC ys i x).size = x.size := by
  unfold witC
  cases hs : stB x with
  | false => rw [if_neg (by decide)]
  | true =>
    have := tl_size hs
    rw [if_pos rfl]
    split <;> (rw [ByteArray.size_append]; show 1 + (tlB x).size = _; omega)
theorem witAt_size {xs ys : List ByteArray} {m : Nat} (h : ∀ x ∈ xs, x.size ≤ m) (hm : 1 ≤ m) (i : Nat) : (witAt xs ys i).size ≤ m := by
  unfold witAt
  rw [witC_size]
  cases hx : xs[i]? with
  | none => exact hm
  | some x => exact h x (List.mem_of_getElem? hx)
theorem wit_sum (xs ys : List ByteArray) : ∀ k, ((datj (witL xs ys k)).map (fun x => x.length + 1)).sum ≤ sumB (xs.take k) + 2 * k
  | 0 => by simp [witL, datj]
  | k + 1 => by
    have ih := wit_sum xs ys k
    rw [witL_step]
    unfold datj at ih ⊢
    rw [List.map_append, List.map_append, List.sum_append]
    have e : ((List.map (fun x : ByteArray => x.data.toList) [witAt xs ys k]).map (fun x => x.length + 1)).sum = (witAt xs ys k).size + 1 := by
      rw [Lib.size_eq]
      simp
    rw [e]
    unfold witAt
    rw [witC_size]
    cases hx : xs[k]? with
    | none =>
      have hk : xs.length ≤ k := by
        rcases Nat.lt_or_ge k xs.length with h | h
        · rw [List.getElem?_eq_getElem h] at hx; cases hx
        · exact h
      rw [List.take_of_length_le hk] at ih
      rw [List.take_of_length_le (by omega)]
      show _ + (1 + 1) ≤ _
      omega
    | some x =>
      rw [sum_step hx]
      show _ + (x.size + 1) ≤ _
      omega
theorem sum_take (xs : List ByteArray) (k : Nat) : sumB (xs.take k) ≤ sumB xs := by
  conv => rhs; rw [← List.take_append_drop k xs]
  unfold sumB
  rw [List.map_append, List.sum_append]
  omega
theorem witP_size {xs ys : List ByteArray} {n : Nat} (hs : sumB xs ≤ 400) (hl : xs.length ≤ 20) (hn : n ≤ 13) : (witP xs ys n).size ≤ 5000 := by
  unfold witP joinB joinL
  rw [mkB_size]
  have h1 := join_len_le (datj (witL xs ys (xs.length + n)))
  have h2 := wit_sum xs ys (xs.length + n)
  have h3 := sum_take xs (xs.length + n)
  simp only [List.length_cons]
  omega

end Go.Proofs.YtidjmbmnfnnleaaDoor

