/-
  What a loop of Substitute knows: plain laws.
-/
import Derived.Test.YtofmngfmoagenaaDoorQ29
namespace Go.Proofs.YtofmngfmoagenaaDoor
set_option linter.unusedSimpArgs false
set_option linter.unusedVariables false
open Go.RowKit
open Pm

/-- the first part of a binding -/
def hdP (p : List ByteArray × Bool) : ByteArray := p.1.headD ⟨#[]⟩
def SI (st : ByteArray → Bool) (tl : ByteArray → ByteArray) (xs : List ByteArray) (bs : List (List ByteArray × Bool)) (k : Nat) (ls : List (List ByteArray × Bool)) (done : List ByteArray) : Prop :=
  done.length = k ∧ done ++ flC st tl (xs.drop k) (ls.map hdP) = flC st tl xs (bs.map hdP) ∧ ls = bs.drop (countB st (xs.take k))
theorem SI.start (st : ByteArray → Bool) (tl : ByteArray → ByteArray) (xs : List ByteArray) (bs : List (List ByteArray × Bool)) : SI st tl xs bs 0 bs [] := ⟨rfl, rfl, rfl⟩
theorem SI.part {st : ByteArray → Bool} {tl : ByteArray → ByteArray} {xs : List ByteArray} {bs ls : List (List ByteArray × Bool)} {k : Nat} {done : List ByteArray} {x : ByteArray} (h : SI st tl xs bs k ls done) (hx : xs[k]? = some x) (hs : st x = false) :
    SI st tl xs bs (k + 1) ls (done ++ [x]) := by
  obtain ⟨h1, h2, h3⟩ := h
  have e := drop_cons hx
  refine ⟨by simp [h1], ?_, ?_⟩
  · rw [← h2, e]
    conv => rhs; unfold flC
    rw [if_neg (by rw [hs]; decide)]
    simp
  · rw [h3, count_step hx, if_neg (by rw [hs]; decide), Nat.add_zero]
theorem SI.star {st : ByteArray → Bool} {tl : ByteArray → ByteArray} {xs : List ByteArray} {bs ls : List (List ByteArray × Bool)} {k : Nat} {done : List ByteArray} {x : ByteArray} {p : List ByteArray × Bool} (h : SI st tl xs bs k (p :: ls) done) (hx : xs[k]? = some x) (hs : st x = true) :
    SI st tl xs bs (k + 1) ls (done ++ [hdP p ++ tl x]) := by
  obtain ⟨h1, h2, h3⟩ := h
  have e := drop_cons hx
  refine ⟨by simp [h1], ?_, ?_⟩
  · rw [← h2, e]
    conv => rhs; unfold flC
    rw [if_pos hs]
    simp
  · rw [count_step hx, if_pos hs, ← List.drop_drop, ← h3]
    rfl
theorem SI.done {st : ByteArray → Bool} {tl : ByteArray → ByteArray} {xs : List ByteArray} {bs ls : List (List ByteArray × Bool)} {k : Nat} {done : List ByteArray} (h : SI st tl xs bs k ls done) (hk : xs.length ≤ k) :
    done = flC st tl xs (bs.map hdP) ∧ ls = bs.drop (countB st xs) := by
  obtain ⟨h1, h2, h3⟩ := h
  rw [List.drop_eq_nil_of_le hk] at h2
  rw [List.take_of_length_le hk] at h3
  exact ⟨by rw [← h2]; simp [flC], h3⟩
/-- at a wildcard part the list of bindings is not at its end -/
theorem SI.next {st : ByteArray → Bool} {tl : ByteArray → ByteArray} {xs : List ByteArray} {bs ls : List (List ByteArray × Bool)} {k : Nat} {done : List ByteArray} {x : ByteArray} (h : SI st tl xs bs k ls done) (hx : xs[k]? = some x) (hs : st x = true) (hl : countB st xs ≤ bs.length) :
    ∃ p ls', ls = p :: ls' ∧ countB st (xs.take k) < countB st xs ∧ bs[countB st (xs.take k)]? = some p := by
  have h1 := count_step (st := st) hx
  rw [if_pos hs] at h1
  have h2 : countB st (xs.take (k + 1)) ≤ countB st xs := by
    unfold countB
    exact (List.Sublist.filter _ (List.take_sublist _ _)).length_le
  have h3 : countB st (xs.take k) < bs.length := by omega
  refine ⟨bs[countB st (xs.take k)], bs.drop (countB st (xs.take k) + 1), ?_, by omega, List.getElem?_eq_getElem h3⟩
  rw [h.2.2, List.drop_eq_getElem_cons h3]
theorem SI.len {st : ByteArray → Bool} {tl : ByteArray → ByteArray} {xs : List ByteArray} {bs ls : List (List ByteArray × Bool)} {k : Nat} {done : List ByteArray} (h : SI st tl xs bs k ls done) : ls.length ≤ bs.length := by
  rw [h.2.2, List.length_drop]; omega
theorem SI.mem {st : ByteArray → Bool} {tl : ByteArray → ByteArray} {xs : List ByteArray} {bs ls : List (List ByteArray × Bool)} {k : Nat} {done : List ByteArray} (h : SI st tl xs bs k ls done) {p : List ByteArray × Bool} (hp : p ∈ ls) : p ∈ bs := by
  rw [h.2.2] at hp
  exact List.mem_of_mem_drop hp
theorem bindOk_one {zs : List ByteArray} {q : Bool} (h : bindOk zs q false = true) : ∃ y, zs = [y] ∧ q = false ∧ partB y = true := by
  unfold bindOk at h
  split at h
  · cases h
  · rename_i hn
    match zs, hn, h with
    | [], hn, h => simp at hn
    | [y], hn, h => cases q <;> simp at hn; exact ⟨y, rfl, rfl, by simpa using h⟩
    | a :: b :: l, hn, h => simp at hn
theorem BO.one {st : Nat} {bs : List (List ByteArray × Bool)} (h : BO st bs bs.length) {j : Nat} (hj : j < st) {p : List ByteArray × Bool} (hp : bs[j]? = some p) : ∃ y, p = ([y], false) ∧ partB y = true := by
  have := h j p (List.getElem?_eq_some_iff.1 hp).1 hp
  rw [decide_eq_false (by omega)] at this
  obtain ⟨y, h1, h2, h3⟩ := bindOk_one this
  exact ⟨y, by rw [← h1, ← h2], h3⟩
theorem BT.nil' (w : World) (A : Option Addr) (c : Nat) (hc : c ≤ 9223372036854775807) : BT w A c [] := ⟨Nat.zero_le _, hc, fun h => absurd h (Nat.lt_irrefl 0)⟩
theorem BT.drop1 {w : World} {b o c : Nat} {p : List ByteArray × Bool} {ls : List (List ByteArray × Bool)} (h : BT w (some ⟨b, o, none⟩) c (p :: ls)) : BT w (some ⟨b, o + 2, none⟩) (c - 1) ls := by
  have h1 := h.1
  simp at h1
  have h2 := h.2.1
  refine ⟨by omega, by omega, fun h0 => ?_⟩
  obtain ⟨b', o', e, hlt, hc⟩ := h.2.2 (by simp)
  obtain ⟨rfl, rfl, -⟩ := Addr.mk.inj (Option.some.inj e)
  refine ⟨b, o + 2, rfl, hlt, fun j q hq => ?_⟩
  obtain ⟨C, n, g1, g2, g3⟩ := hc (j + 1) q (by simpa using hq)
  rw [show o + (j + 1) * 2 = o + 2 + j * 2 from by omega] at g1 g2
  exact ⟨C, n, g1, g2, g3⟩
end Go.Proofs.YtofmngfmoagenaaDoor

