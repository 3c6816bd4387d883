/-
  The text of a pattern is read as the pattern; what was read has the text that was read.
-/
import Derived.Test.YtofmngfmoagenaaDoorQ8
namespace Go.Proofs.YtofmngfmoagenaaDoor
set_option linter.unusedSimpArgs false
set_option linter.unusedVariables false
open Go.RowKit
open Pm

theorem part_noslash {x : ByteArray} (h : partB x = true) : (47 : UInt8) ∉ x.data.toList := by
  unfold partB at h
  rw [Bool.or_eq_true] at h
  rcases h with h | h
  · unfold starOk stB at h
    rw [Bool.and_eq_true] at h
    obtain ⟨h2, h3⟩ := h
    generalize x.data.toList = l at *
    intro hm
    cases l with
    | nil => cases hm
    | cons c r =>
      simp only [Lib.hasPrefix, List.isPrefixOf, Bool.and_true, beq_iff_eq] at h2
      subst h2
      rcases List.mem_cons.1 hm with e | hm
      · revert e; decide
      · rw [List.drop_succ_cons, List.drop_zero] at h3
        have := List.all_eq_true.1 h3 47 hm
        revert this
        decide
  · exact comp_no_slash h
theorem part_nodots {x : ByteArray} (h : partB x = true) : x.data.toList ≠ dots := by
  intro e
  unfold partB starOk stB at h
  rw [e] at h
  revert h
  decide
theorem textB_data (xs : List ByteArray) (r : Bool) : (textB xs r).data.toList = 47 :: 47 :: (Lib.join (datj xs) [47] ++ (if r = true then [47, 46, 46, 46] else [])) := by
  unfold textB
  cases r with
  | true =>
    simp only [if_true]
    rw [ByteArray.data_append, Array.toList_append, cat_eq]
    unfold joinB joinL
    rw [mkB_data]
    rfl
  | false =>
    simp only [Bool.false_eq_true, if_false, List.append_nil]
    rw [cat_eq]
    unfold joinB joinL
    rw [mkB_data]
theorem datj_back (xs : List ByteArray) : (datj xs).map mkB = xs := by
  unfold datj
  rw [List.map_map]
  conv => rhs; rw [← List.map_id xs]
  exact List.map_congr_left fun x _ => mkB_back x
theorem sp_datj {xs : List ByteArray} (h0 : 0 < xs.length) (h : ∀ x ∈ xs, partB x = true) : sp (Lib.join (datj xs) [47]) = datj xs := by
  refine sp_join _ ?_ ?_
  · intro e
    have : (datj xs).length = xs.length := List.length_map _
    rw [e] at this
    simp at this
    omega
  · intro x hx
    unfold datj at hx
    obtain ⟨y, hy, rfl⟩ := List.mem_map.1 hx
    exact part_noslash (h y hy)

/-- the text of a pattern is read as it -/
theorem parse_text {xs : List ByteArray} {r : Bool} (hc : checkP xs r = 0) : parseN (textB xs r) = 0 ∧ ppartsB (textB xs r) = xs ∧ prestB (textB xs r) = r := by
  obtain ⟨h0, _, hp⟩ := check_zero hc
  have hall := parts_all hp
  have hsp := sp_datj h0 hall
  have hd := textB_data xs r
  have hb : bodyL (textB xs r) = Lib.join (datj xs) [47] ++ (if r = true then [47, 46, 46, 46] else []) := by
    unfold bodyL
    rw [hd]
    rfl
  have hpre : Lib.hasPrefix (textB xs r).data.toList [47, 47] = true := by
    rw [hd]
    simp [Lib.hasPrefix, List.isPrefixOf]
  have key : ppartsB (textB xs r) = xs ∧ prestB (textB xs r) = r := by
    unfold ppartsB prestB
    rw [hb]
    cases r with
    | true =>
      have := @suffix_of (Lib.join (datj xs) [47])
      simp only [if_true]
      rw [show ([47, 46, 46, 46] : List UInt8) = 47 :: dots from rfl] at *
      rw [this.1, this.2]
      refine ⟨?_, rfl⟩
      unfold spB
      rw [hsp, datj_back]
    | false =>
      simp only [Bool.false_eq_true, if_false, List.append_nil]
      have hs : Lib.hasSuffix (Lib.join (datj xs) [47]) [47, 46, 46, 46] = false := by
        rcases sp_split_last (Lib.join (datj xs) [47]) with ⟨b, hb, hl, _⟩ | ⟨a, b, hb, hl, h3⟩
        · rw [hl]; exact suffix_none hb
        · refine suffix_not hl hb fun e => ?_
          have hm : b ∈ datj xs := by rw [← hsp, h3]; simp
          unfold datj at hm
          obtain ⟨y, hy, rfl⟩ := List.mem_map.1 hm
          exact part_nodots (hall y hy) e
      refine ⟨?_, hs⟩
      unfold Lib.trimSuffix
      rw [hs]
      simp only [Bool.false_eq_true, if_false]
      unfold spB
      rw [hsp, datj_back]
  refine ⟨?_, key⟩
  unfold parseN
  rw [if_pos hpre, key.1, key.2]
  exact hc

theorem text_back (s : ByteArray) : (Lib.trimSuffix (bodyL s) [47, 46, 46, 46] ++ if prestB s = true then [47, 46, 46, 46] else []) = bodyL s := by
  unfold prestB Lib.trimSuffix
  cases hh : Lib.hasSuffix (bodyL s) [47, 46, 46, 46] with
  | true =>
    simp only [if_true]
    unfold Lib.hasSuffix at hh
    rw [List.isSuffixOf_iff_suffix] at hh
    obtain ⟨a, ha⟩ := hh
    rw [← ha]
    simp
  | false => simp

/-- what was read has the text that was read -/
theorem text_parse {s : ByteArray} (h : parseN s = 0) : checkP (ppartsB s) (prestB s) = 0 ∧ textB (ppartsB s) (prestB s) = s := by
  have hpre : Lib.hasPrefix s.data.toList [47, 47] = true := by
    cases hp : Lib.hasPrefix s.data.toList [47, 47] with
    | true => rfl
    | false =>
      unfold parseN at h
      rw [hp] at h
      cases h
  have hc : checkP (ppartsB s) (prestB s) = 0 := by
    unfold parseN at h
    rwa [if_pos hpre] at h
  refine ⟨hc, ?_⟩
  have hs : s.data.toList = 47 :: 47 :: bodyL s := by
    unfold bodyL
    unfold Lib.hasPrefix at hpre
    rw [List.isPrefixOf_iff_prefix] at hpre
    obtain ⟨t, ht⟩ := hpre
    rw [← ht]
    rfl
  have hj : Lib.join (datj (ppartsB s)) [47] = Lib.trimSuffix (bodyL s) [47, 46, 46, 46] := by
    unfold ppartsB spB datj
    rw [List.map_map]
    rw [show ((fun x : ByteArray => x.data.toList) ∘ mkB) = id from funext fun l => mkB_data l, List.map_id, join_sp]
  have hfin : (textB (ppartsB s) (prestB s)).data.toList = s.data.toList := by
    rw [textB_data, hj, hs]
    refine congrArg (fun l => 47 :: 47 :: l) ?_
    exact text_back s
  rw [← mkB_back (textB (ppartsB s) (prestB s)), hfin, mkB_back]
end Go.Proofs.YtofmngfmoagenaaDoor

