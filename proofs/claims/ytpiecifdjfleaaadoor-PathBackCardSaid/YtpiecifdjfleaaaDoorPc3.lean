/-
  The walks of Parent, Name and Extension, and of the reference's Extension.
-/
import Derived.Test.YtpiecifdjfleaaaDoorPm2
namespace Go.Proofs.YtpiecifdjfleaaaDoor
set_option linter.unusedSimpArgs false
set_option linter.unusedVariables false
open Go.RowKit
open Pm

def lastI (s : ByteArray) : Nat := (Lib.lastIndexByte s 47).toNat
def parentB (s : ByteArray) : ByteArray := s.extract 0 (lastI s)
def nameB (s : ByteArray) : ByteArray := s.extract (lastI s + 1) s.size
def dotI (s : ByteArray) : Int := Lib.lastIndexByte s 46
def extB (s : ByteArray) : ByteArray := if dotI s < 0 then ⟨#[]⟩ else s.extract (dotI s).toNat s.size

set_option maxHeartbeats 400000 in
theorem parent_any (s : ByteArray) (w : World) (hs : s.size ≤ 1000000) :
    Calls Tryd.prog 23 #[.string s] w fun e w' => e = .returned (.tuple #[.string (if pathOk s.data.toList = true then parentB s else ⟨#[]⟩), .int .i64 (if pathOk s.data.toList = true then 0 else 20)]) ∧ w = w' := by
  cases hv : pathOk s.data.toList with
  | false =>
    simp only [Bool.false_eq_true, if_false]
    go_enter Tryd.func23, Tryd.ntmps23
    go_wp2_with (go_at_call 13; refine (valid_any _ _ (by omega)).mono ?_; rintro e w' ⟨rfl, rfl⟩)
    go_ret2
    exact ⟨rfl, rfl⟩
  | true =>
    simp only [if_true]
    obtain ⟨i, hi2, hi, he, hrest⟩ := path_last hv
    clear hrest
    have HP : Hid (parentB s = s.extract 0 i) := Lib.hid (by unfold parentB lastI; rw [he]; rfl)
    have hl := lastIndex_any s 47 hs w
    rw [he] at hl
    have HL := Lib.hid hl
    clear hl he
    go_enter Tryd.func23, Tryd.ntmps23
    go_wp2_with (first
      | (go_at_call 13; refine (valid_any _ _ (by omega)).mono ?_; rintro e w' ⟨rfl, rfl⟩)
      | (go_at_call 38; refine HL.out.mono ?_; rintro e w' ⟨rfl, rfl⟩))
    go_ret2
    exact ⟨ret_si HP.out.symm rfl, rfl⟩

set_option maxHeartbeats 400000 in
theorem name_any (s : ByteArray) (w : World) (hs : s.size ≤ 1000000) :
    Calls Tryd.prog 24 #[.string s] w fun e w' => e = .returned (.tuple #[.string (if pathOk s.data.toList = true then nameB s else ⟨#[]⟩), .int .i64 (if pathOk s.data.toList = true then 0 else 20)]) ∧ w = w' := by
  cases hv : pathOk s.data.toList with
  | false =>
    simp only [Bool.false_eq_true, if_false]
    go_enter Tryd.func24, Tryd.ntmps24
    go_wp2_with (go_at_call 13; refine (valid_any _ _ (by omega)).mono ?_; rintro e w' ⟨rfl, rfl⟩)
    go_ret2
    exact ⟨rfl, rfl⟩
  | true =>
    simp only [if_true]
    obtain ⟨i, hi2, hi, he, hrest⟩ := path_last hv
    clear hrest
    have HP : Hid (nameB s = s.extract (i + 1) s.size) := Lib.hid (by unfold nameB lastI; rw [he]; rfl)
    have hl := lastIndex_any s 47 hs w
    rw [he] at hl
    have HL := Lib.hid hl
    clear hl he
    go_enter Tryd.func24, Tryd.ntmps24
    go_wp2_with (first
      | (go_at_call 13; refine (valid_any _ _ (by omega)).mono ?_; rintro e w' ⟨rfl, rfl⟩)
      | (go_at_call 38; refine HL.out.mono ?_; rintro e w' ⟨rfl, rfl⟩))
    go_ret2
    exact ⟨ret_si HP.out.symm rfl, rfl⟩

theorem dot_cases (s : ByteArray) : (dotI s = -1 ∧ extB s = ⟨#[]⟩) ∨ ∃ i : Nat, i < s.size ∧ dotI s = i ∧ extB s = s.extract i s.size := by
  unfold extB dotI
  rcases Lib.lastIndexByte_spec s 46 with ⟨e, _⟩ | ⟨i, hi, e, _⟩
  · refine .inl ⟨e, ?_⟩
    rw [e]
    rfl
  · refine .inr ⟨i, hi, e, ?_⟩
    rw [e, if_neg (by omega)]
    rfl
theorem nameB_size (s : ByteArray) : (nameB s).size ≤ s.size := piece_size _ _ _

set_option maxHeartbeats 400000 in
theorem rext_any (s : ByteArray) (w : World) (hs : s.size ≤ 1000000) :
    Calls Tryd.prog 27 #[.string s] w fun e w' => e = .returned (.string (extB s)) ∧ w = w' := by
  have hl := lastIndex_any s 46 hs w
  rcases dot_cases s with ⟨e, h⟩ | ⟨i, hi, e, h⟩
  · have e' : Lib.lastIndexByte s 46 = -1 := e
    rw [e'] at hl
    have HL := Lib.hid hl
    have H := Lib.hid h
    clear hl e e' h
    go_enter Tryd.func27, Tryd.ntmps27
    go_wp2_with (go_at_call 38; refine HL.out.mono ?_; rintro e w' ⟨rfl, rfl⟩)
    go_ret
    exact ⟨ret_str H.out.symm, rfl⟩
  · have e' : Lib.lastIndexByte s 46 = (i : Int) := e
    rw [e'] at hl
    have HL := Lib.hid hl
    have H := Lib.hid h
    clear hl e e' h
    go_enter Tryd.func27, Tryd.ntmps27
    go_wp2_with (go_at_call 38; refine HL.out.mono ?_; rintro e w' ⟨rfl, rfl⟩)
    go_ret
    exact ⟨ret_str H.out.symm, rfl⟩

set_option maxHeartbeats 400000 in
theorem ext_any (s : ByteArray) (w : World) (hs : s.size ≤ 1000000) :
    Calls Tryd.prog 25 #[.string s] w fun e w' => e = .returned (.tuple #[.string (if pathOk s.data.toList = true then extB (nameB s) else ⟨#[]⟩), .int .i64 (if pathOk s.data.toList = true then 0 else 20)]) ∧ w = w' := by
  have hnm := name_any s w hs
  cases hv : pathOk s.data.toList with
  | false =>
    rw [hv] at hnm
    simp only [Bool.false_eq_true, if_false] at hnm ⊢
    have HN := Lib.hid hnm
    clear hnm
    go_enter Tryd.func25, Tryd.ntmps25
    go_wp2_with (go_at_call 24; refine HN.out.mono ?_; rintro e w' ⟨rfl, rfl⟩)
    go_ret2
    exact ⟨rfl, rfl⟩
  | true =>
    rw [hv] at hnm
    simp only [if_true] at hnm ⊢
    have HN := Lib.hid hnm
    have hsz := nameB_size s
    clear hnm
    generalize nameB s = n at *
    have hl := lastIndex_any n 46 (by omega) w
    rcases dot_cases n with ⟨e, h⟩ | ⟨i, hi, e, h⟩
    · have e' : Lib.lastIndexByte n 46 = -1 := e
      rw [e'] at hl
      have HL := Lib.hid hl
      have H := Lib.hid h
      clear hl e e' h
      go_enter Tryd.func25, Tryd.ntmps25
      go_wp2_with (first
        | (go_at_call 24; refine HN.out.mono ?_; rintro e w' ⟨rfl, rfl⟩)
        | (go_at_call 38; refine HL.out.mono ?_; rintro e w' ⟨rfl, rfl⟩))
      go_ret2
      exact ⟨ret_si H.out.symm rfl, rfl⟩
    · have e' : Lib.lastIndexByte n 46 = (i : Int) := e
      rw [e'] at hl
      have HL := Lib.hid hl
      have H := Lib.hid h
      clear hl e e' h
      go_enter Tryd.func25, Tryd.ntmps25
      go_wp2_with (first
        | (go_at_call 24; refine HN.out.mono ?_; rintro e w' ⟨rfl, rfl⟩)
        | (go_at_call 38; refine HL.out.mono ?_; rintro e w' ⟨rfl, rfl⟩))
      go_ret2
      exact ⟨ret_si H.out.symm rfl, rfl⟩

/-- the pieces of a path are what its components say -/
theorem pieces {s : ByteArray} (h : pathOk s.data.toList = true) :
    ∃ xs n, compsB s = xs ++ [n] ∧ nameB s = n ∧ parentB s = joinB xs ∧ dirOk (parentB s).data.toList = true ∧ compsB (parentB s) = xs ∧ comp n.data.toList = true ∧
      (parentB s).data.toList ++ 47 :: (nameB s).data.toList = s.data.toList ∧ xs ≠ [] := by
  obtain ⟨i, hi2, hi, he, hn, hpar, hsp, hsplit⟩ := path_last h
  have hP : (parentB s).data.toList = s.data.toList.take i := by
    unfold parentB lastI
    rw [he, piece_eq]
    simp
  have hN : (nameB s).data.toList = s.data.toList.drop (i + 1) := by
    unfold nameB lastI
    rw [he, Lib.extract_to_end]
    rfl
  have hd2 : (parentB s).data.toList.drop 2 = (s.data.toList.drop 2).take (i - 2) := by rw [hP, hpar]; rfl
  have hcs : compsB s = compsB (parentB s) ++ [nameB s] := by
    unfold compsB spB
    rw [hsp, List.map_append, hd2]
    congr 1
    rw [List.map_cons, List.map_nil, ← hN, mkB_back]
  have hall : (compsB s).all (fun x => comp x.data.toList) = true := by
    have := (pathOk_iff s).1 h
    unfold dirOk at this
    rw [Bool.and_eq_true, comps_all] at this
    exact this.1.2
  rw [hcs, List.all_append, Bool.and_eq_true] at hall
  refine ⟨compsB (parentB s), nameB s, hcs, rfl, ?_, ?_, rfl, ?_, ?_, ?_⟩
  · have e : joinL (datj (compsB (parentB s))) = (parentB s).data.toList := by
      have : datj (compsB (parentB s)) = sp ((s.data.toList.drop 2).take (i - 2)) := by
        unfold datj compsB spB
        rw [hd2, List.map_map]
        conv => rhs; rw [← List.map_id (sp _)]
        exact List.map_congr_left fun x _ => mkB_data x
      unfold joinL
      rw [this, join_sp, hP, hpar]
    unfold joinB
    rw [e, mkB_back]
  · unfold dirOk
    rw [comps_all, hall.1, hP, hpar]
    rfl
  · have := hall.2
    simpa using this
  · rw [hP, hN]
    exact hsplit.symm
  · exact fun e => by
      have := spB_pos ((parentB s).data.toList.drop 2)
      unfold compsB at e
      rw [e] at this
      cases this
end Go.Proofs.YtpiecifdjfleaaaDoor
