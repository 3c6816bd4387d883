/-
  Plain facts on the directory, the name and the extension of a path.
-/
import Derived.Test.YtpiecifdjfleaaaDoorPj
import Derived.Lib.LastIndexByte
namespace Go.Proofs.YtpiecifdjfleaaaDoor
set_option linter.unusedSimpArgs false
set_option linter.unusedVariables false
open Pm

theorem sp_snoc : ∀ (a b : List UInt8), (47 : UInt8) ∉ b → sp (a ++ 47 :: b) = sp a ++ [b]
  | [], b, h => by
    rw [List.nil_append, sp_slash, sp_last b h]
    rfl
  | c :: a, b, h => by
    have ih := sp_snoc a b h
    by_cases hc : c = 47
    · subst hc
      rw [List.cons_append, sp_slash, sp_slash, ih]
      rfl
    · obtain ⟨x, xs, e1, e2⟩ := sp_cons c a hc
      obtain ⟨y, ys, e3, e4⟩ := sp_cons c (a ++ 47 :: b) hc
      rw [List.cons_append, e4, e2]
      rw [ih, e1] at e3
      simp only [List.cons_append, List.cons.injEq] at e3 ⊢
      exact ⟨⟨trivial, e3.1.symm⟩, e3.2.symm⟩

/-- the last slash of a text, told by what stands ahead and behind -/
theorem last_slash {s : ByteArray} (h : (47 : UInt8) ∈ s.data.toList) :
    ∃ i : Nat, i < s.size ∧ Lib.lastIndexByte s 47 = i ∧ s.data.toList = s.data.toList.take i ++ 47 :: s.data.toList.drop (i + 1) ∧ (47 : UInt8) ∉ s.data.toList.drop (i + 1) := by
  have hget : ∀ j, j < s.size → s.data.toList[j]? = some (s.data[j]!) := fun j hj => by
    rw [Lib.data_getElem? s j hj]
    congr 1
    rw [getElem!_pos s.data j hj]
    rfl
  rcases Lib.lastIndexByte_spec s 47 with ⟨_, hn⟩ | ⟨i, hi, e, hc, hn⟩
  · exfalso
    obtain ⟨j, hj⟩ := List.getElem?_of_mem h
    have hjl : j < s.size := by rw [Lib.size_eq]; exact (List.getElem?_eq_some_iff.1 hj).1
    rw [hget j hjl] at hj
    refine hn j hjl ?_
    rw [Option.some.inj hj]
    rfl
  · have hi' : i < s.data.toList.length := by rw [← Lib.size_eq]; exact hi
    have h47 : s.data[i]! = 47 := UInt8.toNat_inj.1 (by show (s.data[i]!).toNat = 47; omega)
    refine ⟨i, hi, e, ?_, ?_⟩
    · have h1 : s.data.toList.drop i = 47 :: s.data.toList.drop (i + 1) := by
        rw [List.drop_eq_getElem_cons hi']
        congr 1
        have := hget i hi
        rw [List.getElem?_eq_getElem hi', h47] at this
        exact Option.some.inj this
      rw [← h1, List.take_append_drop]
    · intro hm
      obtain ⟨j, hj⟩ := List.getElem?_of_mem hm
      rw [List.getElem?_drop] at hj
      have hjl : i + 1 + j < s.size := by rw [Lib.size_eq]; exact (List.getElem?_eq_some_iff.1 hj).1
      rw [hget _ hjl] at hj
      refine hn (i + 1 + j) (by omega) hjl ?_
      rw [Option.some.inj hj]
      rfl

/-- the last slash of a path: where it stands, the components ahead of it, and the name -/
theorem path_last {s : ByteArray} (h : pathOk s.data.toList = true) :
    ∃ i : Nat, 2 ≤ i ∧ i < s.size ∧ Lib.lastIndexByte s 47 = i ∧ (47 : UInt8) ∉ s.data.toList.drop (i + 1) ∧
      s.data.toList.take i = 47 :: 47 :: (s.data.toList.drop 2).take (i - 2) ∧
      sp (s.data.toList.drop 2) = sp ((s.data.toList.drop 2).take (i - 2)) ++ [s.data.toList.drop (i + 1)] ∧
      s.data.toList = s.data.toList.take i ++ 47 :: s.data.toList.drop (i + 1) := by
  have hp : Lib.hasPrefix s.data.toList [47, 47] = true := by
    unfold pathOk dirOk at h
    simp only [Bool.and_eq_true] at h
    exact h.1.1
  have hlen : 2 ≤ (sp (s.data.toList.drop 2)).length := by
    unfold pathOk at h
    simp only [Bool.and_eq_true, decide_eq_true_iff] at h
    exact h.2
  have hhead : s.data.toList = 47 :: 47 :: s.data.toList.drop 2 := by
    unfold Lib.hasPrefix at hp
    obtain ⟨t, ht⟩ := List.isPrefixOf_iff_prefix.1 hp
    rw [← ht]
    rfl
  generalize hb : s.data.toList.drop 2 = body at *
  have hmem : (47 : UInt8) ∈ body := by
    apply Classical.byContradiction
    intro hn
    rw [sp_last body hn] at hlen
    simp at hlen
  obtain ⟨i, hi, e, hsplit, hn⟩ := last_slash (s := s) (by rw [hhead]; simp)
  have hi2 : 2 ≤ i := by
    apply Classical.byContradiction
    intro hlt
    refine hn ?_
    rw [hhead]
    rcases i with _ | _ | i
    · simp
    · simpa using hmem
    · omega
  refine ⟨i, hi2, hi, e, hn, ?_, ?_, hsplit⟩
  · conv => lhs; rw [hhead]
    rw [show i = (i - 2) + 1 + 1 by omega, List.take_succ_cons, List.take_succ_cons]
    rfl
  · have hb2 : body = body.take (i - 2) ++ 47 :: s.data.toList.drop (i + 1) := by
      have h1 : s.data.toList.drop 2 = (s.data.toList.take i).drop 2 ++ 47 :: s.data.toList.drop (i + 1) := by
        conv => lhs; rw [hsplit]
        rw [List.drop_append_of_le_length (by rw [List.length_take, ← Lib.size_eq]; omega)]
      rw [hb, List.drop_take, hb] at h1
      exact h1
    conv => lhs; rw [hb2]
    exact sp_snoc _ _ hn
end Go.Proofs.YtpiecifdjfleaaaDoor
