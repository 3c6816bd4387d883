/-
  What the program's Substitute answers.
-/
import Derived.Test.YtofmngfmoagenaaDoorQ33
namespace Go.Proofs.YtofmngfmoagenaaDoor
set_option linter.unusedSimpArgs false
set_option linter.unusedVariables false
open Go.RowKit
open Pm

/-- the bindings are in order -/
def bsOk (st : Nat) (bs : List (List ByteArray × Bool)) : Bool := (List.range bs.length).all fun i => bindOk (bs.getD i ([], false)).1 (bs.getD i ([], false)).2 (decide (i = st))
theorem bsOk_iff {st : Nat} {bs : List (List ByteArray × Bool)} : bsOk st bs = true ↔ BO st bs bs.length := by
  unfold bsOk BO
  rw [List.all_eq_true]
  constructor
  · intro h i p hi hp
    have := h i (List.mem_range.2 hi)
    rwa [List.getD, hp] at this
  · intro h i hi
    have hil := List.mem_range.1 hi
    have := h i bs[i] hil (List.getElem?_eq_getElem hil)
    rw [List.getD, List.getElem?_eq_getElem hil]
    exact this
/-- the binding of the rest -/
def lastP (xs : List ByteArray) (bs : List (List ByteArray × Bool)) : List ByteArray × Bool := bs.getD (countB stB xs) ([], false)
/-- what Substitute answers -/
def subE (xs : List ByteArray) (r : Bool) (bs : List (List ByteArray × Bool)) : Int :=
  if checkP xs r ≠ 0 then checkP xs r else if bs.length ≠ wildB stB xs r then 33 else if bsOk (countB stB xs) bs = false then 33 else if r = true ∧ 12 < xs.length + (lastP xs bs).1.length then 31 else 0
def subL (xs : List ByteArray) (r : Bool) (bs : List (List ByteArray × Bool)) : List ByteArray := if subE xs r bs = 0 then flC stB tlB xs (bs.map hdP) ++ (if r = true then (lastP xs bs).1 else []) else []
def subR (xs : List ByteArray) (r : Bool) (bs : List (List ByteArray × Bool)) : Bool := if subE xs r bs = 0 then r && (lastP xs bs).2 else false
theorem sub_err {xs : List ByteArray} {r : Bool} {bs : List (List ByteArray × Bool)} {n : Int} (h : subE xs r bs = n) (hn : n ≠ 0) : subL xs r bs = [] ∧ subR xs r bs = false := by
  unfold subL subR
  rw [if_neg (by rw [h]; exact hn), if_neg (by rw [h]; exact hn)]
  exact ⟨rfl, rfl⟩

theorem sub_any (A B : Option Addr) (c d : Nat) (xs : List ByteArray) (r : Bool) (bs : List (List ByteArray × Bool)) (w : World) (h : RT w A c xs) (k : BT w B d bs)
    (hsx : ∀ x ∈ xs, x.size ≤ 5000) (hbz : ∀ b ∈ bs, ∀ x ∈ b.1, x.size ≤ 5000) (hbl : ∀ b ∈ bs, b.1.length ≤ 5000) :
    Calls Tryd.prog 39 #[.agg #[.slice A xs.length c, .bool r], .slice B bs.length d] w (RetP w (subL xs r bs) (subR xs r bs) (subE xs r bs)) := by
  have hsx9 : ∀ x ∈ xs, x.size ≤ 9223372036854775807 := fun x hx => by have := hsx x hx; omega
  have hbz9 : ∀ b ∈ bs, ∀ x ∈ b.1, x.size ≤ 9223372036854775807 := fun b hb x hx => by have := hbz b hb x hx; omega
  by_cases hn : checkP xs r = 0
  · by_cases hl : bs.length = wildB stB xs r
    · by_cases ho : bsOk (countB stB xs) bs = true
      · have hbo := bsOk_iff.1 ho
        cases r with
        | false =>
          have e : subE xs false bs = 0 := by
            unfold subE
            rw [if_neg (by simp [hn]), if_neg (by simp [hl]), if_neg (by simp [ho]), if_neg (by simp)]
          have e1 : subL xs false bs = flC stB tlB xs (bs.map hdP) := by unfold subL; rw [if_pos e]; simp
          have e2 : subR xs false bs = false := by unfold subR; rw [if_pos e]; rfl
          rw [e, e1, e2]
          exact sub_plain A B c d xs bs w h k hsx9 hbz9 hn hl hbo hsx hbz
        | true =>
          have hst : countB stB xs < bs.length := by unfold wildB at hl; simp at hl; omega
          have hp : bs[countB stB xs]? = some (lastP xs bs) := by unfold lastP; rw [List.getD, List.getElem?_eq_getElem hst]; rfl
          have hz := hbl _ (List.mem_of_getElem? hp)
          by_cases h12 : 12 < xs.length + (lastP xs bs).1.length
          · have e : subE xs true bs = 31 := by
              unfold subE
              rw [if_neg (by simp [hn]), if_neg (by simp [hl]), if_neg (by simp [ho]), if_pos ⟨rfl, h12⟩]
            rw [e, (sub_err e (by decide)).1, (sub_err e (by decide)).2]
            exact sub_limit A B c d xs (lastP xs bs).1 (lastP xs bs).2 bs w h k hsx9 hbz9 hn hl hbo hsx hbz hp hz h12
          · have e : subE xs true bs = 0 := by
              unfold subE
              rw [if_neg (by simp [hn]), if_neg (by simp [hl]), if_neg (by simp [ho]), if_neg (fun h => h12 h.2)]
            have e1 : subL xs true bs = flC stB tlB xs (bs.map hdP) ++ (lastP xs bs).1 := by unfold subL; rw [if_pos e, if_pos rfl]
            have e2 : subR xs true bs = (lastP xs bs).2 := by unfold subR; rw [if_pos e]; rfl
            rw [e, e1, e2]
            exact sub_rest A B c d xs (lastP xs bs).1 (lastP xs bs).2 bs w h k hsx9 hbz9 hn hl hbo hsx hbz hp hz h12
      · have ho' : bsOk (countB stB xs) bs = false := by simpa using ho
        have e : subE xs r bs = 33 := by
          unfold subE
          rw [if_neg (by simp [hn]), if_neg (by simp [hl]), if_pos ho']
        rw [e, (sub_err e (by decide)).1, (sub_err e (by decide)).2]
        exact sub_bad A B c d xs bs r w h k hsx9 hbz9 hn hl (fun hb => ho (bsOk_iff.2 hb))
    · have e : subE xs r bs = 33 := by
        unfold subE
        rw [if_neg (by simp [hn]), if_pos hl]
      rw [e, (sub_err e (by decide)).1, (sub_err e (by decide)).2]
      exact sub_len A B c d xs bs r w h k hsx9 hn hl
  · have e : subE xs r bs = checkP xs r := by
      unfold subE
      rw [if_pos hn]
    rw [e, (sub_err e hn).1, (sub_err e hn).2]
    exact sub_chk A B c d xs bs r w h k hsx9 hn
end Go.Proofs.YtofmngfmoagenaaDoor

