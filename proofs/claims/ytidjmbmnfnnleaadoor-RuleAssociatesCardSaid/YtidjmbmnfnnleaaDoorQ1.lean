/-
  Parts of patterns: the walks of isStar, formOf, and of the reference's Star and Part.
-/
import Derived.Test.YtidjmbmnfnnleaaDoorMA
namespace Go.Proofs.YtidjmbmnfnnleaaDoor
set_option linter.unusedSimpArgs false
set_option linter.unusedVariables false
open Go.RowKit
open Pm

/-- a part that begins with a star -/
def stB (x : ByteArray) : Bool := Lib.hasPrefix x.data.toList [42]
/-- what follows the star -/
def tlB (x : ByteArray) : ByteArray := x.extract 1 x.size
/-- a star and a suffix -/
def starOk (x : ByteArray) : Bool := stB x && (x.data.toList.drop 1).all isB
/-- the form of a part -/
def formB (x : ByteArray) : Int := if comp x.data.toList = true then 1 else if starOk x = true then 2 else 0

theorem stB_nil {x : ByteArray} (h : x.size = 0) : stB x = false := by
  unfold stB
  rw [bytes_nil h]
  rfl
theorem stB_eq {x : ByteArray} (h : 0 < x.size) : stB x = decide (x[0] = 42) := by
  have e : x.data.toList = x[0] :: x.data.toList.tail := by
    obtain ⟨⟨l⟩⟩ := x
    cases l with
    | nil => exact absurd h (Nat.lt_irrefl 0)
    | cons c l => rfl
  unfold stB Lib.hasPrefix
  rw [e]
  simp only [List.isPrefixOf, Bool.and_true]
  rw [Bool.eq_iff_iff, beq_iff_eq, decide_eq_true_iff]
  exact eq_comm
theorem tlB_data (x : ByteArray) : (tlB x).data.toList = x.data.toList.drop 1 := Lib.extract_to_end x 1
theorem tlB_size (x : ByteArray) : (tlB x).size ≤ x.size := piece_size _ _ _

theorem isStar_any (x : ByteArray) (w : World) :
    Calls Tryd.prog 63 #[.string x] w fun e w' => e = .returned (.bool (stB x)) ∧ w = w' := by
  go_enter Tryd.func63, Tryd.ntmps63
  go_wp2_with (go_at_call 74; refine (hasPrefix_any _ _ _).mono ?_; rintro e w' ⟨rfl, rfl⟩)
  go_ret
  exact ⟨rfl, rfl⟩

theorem drop_step (s : ByteArray) (k : Nat) (h1 : 1 ≤ k) (h : k < s.size) :
    ((s.data.toList.drop 1).take k).all isB = (((s.data.toList.drop 1).take (k - 1)).all isB && isBI (s[k].toNat : Int)) := by
  obtain ⟨j, rfl⟩ : ∃ j, k = j + 1 := ⟨k - 1, by omega⟩
  rw [Nat.add_sub_cancel]
  have hj : (s.data.toList.drop 1)[j]? = some s[j + 1] := by
    rw [List.getElem?_drop, Nat.add_comm 1 j]
    exact Lib.data_getElem? s (j + 1) h
  rw [List.take_add_one, hj, List.all_append]
  simp [isB]
theorem drop_miss {s : ByteArray} {k : Nat} (h1 : 1 ≤ k) (h : k < s.size) (hb : isBI (s[k].toNat : Int) = false) : (s.data.toList.drop 1).all isB = false := by
  rw [Bool.eq_false_iff]
  intro hh
  obtain ⟨j, rfl⟩ : ∃ j, k = j + 1 := ⟨k - 1, by omega⟩
  have hj : (s.data.toList.drop 1)[j]? = some s[j + 1] := by
    rw [List.getElem?_drop, Nat.add_comm 1 j]
    exact Lib.data_getElem? s (j + 1) h
  have := List.all_eq_true.1 hh _ (List.mem_of_getElem? hj)
  rw [isB, hb] at this
  cases this
theorem drop_full {s : ByteArray} {k : Nat} (h : s.size ≤ k) (hA : ((s.data.toList.drop 1).take (k - 1)).all isB = true) : (s.data.toList.drop 1).all isB = true := by
  rwa [List.take_of_length_le (by rw [List.length_drop, ← Lib.size_eq]; omega)] at hA

set_option maxHeartbeats 1000000 in
theorem formOf_any (x : ByteArray) (w : World) (hs : x.size ≤ 9223372036854775807) :
    Calls Tryd.prog 65 #[.string x] w fun e w' => e = .returned (.int .i64 (formB x)) ∧ w = w' := by
  cases hc : comp x.data.toList with
  | true =>
    have HF : Hid (formB x = 1) := Lib.hid (by unfold formB; rw [if_pos hc])
    go_enter Tryd.func65, Tryd.ntmps65
    go_wp2_with (go_at_call 79; refine (component_any _ _ (by omega)).mono ?_; rintro e w' ⟨rfl, rfl⟩)
    go_ret
    exact ⟨ret_int HF.out.symm, rfl⟩
  | false =>
    cases hst : Lib.hasPrefix x.data.toList [42] with
    | false =>
      have HF : Hid (formB x = 0) := Lib.hid (by
        unfold formB starOk stB
        rw [if_neg (by rw [hc]; decide), hst]
        rfl)
      go_enter Tryd.func65, Tryd.ntmps65
      go_wp2_with (first
        | (go_at_call 79; refine (component_any _ _ (by omega)).mono ?_; rintro e w' ⟨rfl, rfl⟩)
        | (go_at_call 74; refine (hasPrefix_any _ _ _).mono ?_; rintro e w' ⟨rfl, rfl⟩))
      go_ret
      exact ⟨ret_int HF.out.symm, rfl⟩
    | true =>
      have hpos : 0 < x.size := by
        apply Classical.byContradiction
        intro h
        have := stB_nil (x := x) (by omega)
        unfold stB at this
        rw [hst] at this
        cases this
      have HF : Hid (formB x = if (x.data.toList.drop 1).all isB = true then 2 else 0) := Lib.hid (by
        unfold formB starOk stB
        rw [if_neg (by rw [hc]; decide), hst, Bool.true_and])
      go_enter Tryd.func65, Tryd.ntmps65
      go_wp2_with (first
        | (go_at_call 79; refine (component_any _ _ (by omega)).mono ?_; rintro e w' ⟨rfl, rfl⟩)
        | (go_at_call 74; refine (hasPrefix_any _ _ _).mono ?_; rintro e w' ⟨rfl, rfl⟩))
      go_loop [3] (fun i => ∃ k : Nat, 1 ≤ k ∧ k ≤ x.size ∧ i = .int .i64 k ∧ Hid (((x.data.toList.drop 1).take (k - 1)).all isB = true)) (fun i => x.size - (intOf i).toNat)
      case atStart => exact ⟨1, Nat.le_refl _, hpos, rfl, Lib.hid (by simp)⟩
      case round =>
        obtain ⟨k, hk1, hk, rfl, HA⟩ := hrel
        by_cases hlt : k < x.size
        · have HS := Lib.hid (drop_step x k hk1 hlt)
          cases hb : isBI (x[k].toNat : Int) with
          | true =>
            go_wp2_with (go_at_call 85; refine (isByte_any _ _).mono ?_; rintro e w' ⟨rfl, rfl⟩)
            go_round
            case rel => exact ⟨k + 1, by omega, by omega, by go_num, Lib.hid (by rw [Nat.add_sub_cancel, HS.out, HA.out, hb]; rfl)⟩
            case measure => simp [intOf]; omega
          | false =>
            have HM := Lib.hid (drop_miss hk1 hlt hb)
            go_wp2_with (go_at_call 85; refine (isByte_any _ _).mono ?_; rintro e w' ⟨rfl, rfl⟩)
            go_ret
            exact ⟨ret_int (by rw [HF.out, HM.out]; rfl), rfl⟩
        · have HM := Lib.hid (drop_full (k := k) (by omega) HA.out)
          go_wp2_with fail
          go_ret
          exact ⟨ret_int (by rw [HF.out, HM.out]; rfl), rfl⟩

theorem ret_sb {a b : ByteArray} {n m : Bool} (h : a = b) (h2 : n = m) : Ending.returned (.tuple #[.string a, .bool n]) = .returned (.tuple #[.string b, .bool m]) := by rw [h, h2]

/-- the suffix of a part that is a star and a suffix -/
def sufB (x : ByteArray) : ByteArray := if starOk x = true then tlB x else ⟨#[]⟩

set_option maxHeartbeats 1000000 in
theorem rstar_any (x : ByteArray) (w : World) (hs : x.size ≤ 9223372036854775807) :
    Calls Tryd.prog 51 #[.string x] w fun e w' => e = .returned (.tuple #[.string (sufB x), .bool (starOk x)]) ∧ w = w' := by
  by_cases h0 : x.size = 0
  · have hl := bytes_nil h0
    have he : x.toList = [] := by rw [Lib.toList_data, hl]
    have HK : Hid (starOk x = false) := Lib.hid (by unfold starOk; rw [stB_nil h0]; rfl)
    have HU : Hid (sufB x = ⟨#[]⟩) := Lib.hid (by unfold sufB; rw [HK.out]; rfl)
    clear hl
    go_enter Tryd.func51, Tryd.ntmps51
    go_wp2_with fail
    go_ret2
    exact ⟨ret_sb HU.out.symm HK.out.symm, rfl⟩
  have hpos : 0 < x.size := by omega
  have hne := bytes_ne hpos
  clear h0
  by_cases hd : x[0] = 42
  · have hdB : ((x[0].toNat : Int) != 42) = false := by rw [hd]; decide
    have HST : Hid (stB x = true) := Lib.hid (by rw [stB_eq hpos, decide_eq_true hd])
    clear hd
    go_enter Tryd.func51, Tryd.ntmps51
    go_wp2_with fail
    go_loop [4] (fun i => ∃ k : Nat, 1 ≤ k ∧ k ≤ x.size ∧ i = .int .i64 k ∧ Hid (((x.data.toList.drop 1).take (k - 1)).all isB = true)) (fun i => x.size - (intOf i).toNat)
    case atStart => exact ⟨1, Nat.le_refl _, hpos, rfl, Lib.hid (by simp)⟩
    case round =>
      obtain ⟨k, hk1, hk, rfl, HA⟩ := hrel
      by_cases hlt : k < x.size
      · have HS := Lib.hid (drop_step x k hk1 hlt)
        have HL := Lib.hid (letIdx_eq x[k])
        by_cases hb : letIdx x[k] < 0
        · have hb' : isBI (x[k].toNat : Int) = false := by
            have := HL.out
            rw [decide_eq_true hb] at this
            unfold isB at this
            cases h : isBI (x[k].toNat : Int) with
            | false => rfl
            | true => rw [h] at this; cases this
          have HM := Lib.hid (drop_miss hk1 hlt hb')
          have HK : Hid (starOk x = false) := Lib.hid (by unfold starOk; rw [HST.out, HM.out]; rfl)
          have HU : Hid (sufB x = ⟨#[]⟩) := Lib.hid (by unfold sufB; rw [HK.out]; rfl)
          clear hb'
          go_wp2_with (go_at_call 75; refine (letters_any _ rfl _ _).mono ?_; rintro e w' ⟨rfl, rfl⟩)
          go_ret2
          exact ⟨ret_sb HU.out.symm HK.out.symm, rfl⟩
        · have HT : Hid (isBI (x[k].toNat : Int) = true) := Lib.hid (by
            have := HL.out
            rw [decide_eq_false hb] at this
            unfold isB at this
            cases h : isBI (x[k].toNat : Int) with
            | true => rfl
            | false => rw [h] at this; cases this)
          go_wp2_with (go_at_call 75; refine (letters_any _ rfl _ _).mono ?_; rintro e w' ⟨rfl, rfl⟩)
          go_round
          case rel => exact ⟨k + 1, by omega, by omega, by go_num, Lib.hid (by rw [Nat.add_sub_cancel, HS.out, HA.out, HT.out]; rfl)⟩
          case measure => simp [intOf]; omega
      · have HM := Lib.hid (drop_full (k := k) (by omega) HA.out)
        have HK : Hid (starOk x = true) := Lib.hid (by unfold starOk; rw [HST.out, HM.out]; rfl)
        have HU : Hid (sufB x = x.extract 1 x.size) := Lib.hid (by unfold sufB; rw [HK.out]; rfl)
        go_wp2_with fail
        go_ret2
        exact ⟨ret_sb HU.out.symm HK.out.symm, rfl⟩
  · have hdB : ((x[0].toNat : Int) != 42) = true := by
      rw [bne_iff_ne]
      intro e
      exact hd (UInt8.toNat_inj.1 (by show x[0].toNat = 42; omega))
    have HK : Hid (starOk x = false) := Lib.hid (by unfold starOk; rw [stB_eq hpos, decide_eq_false hd]; rfl)
    have HU : Hid (sufB x = ⟨#[]⟩) := Lib.hid (by unfold sufB; rw [HK.out]; rfl)
    clear hd
    go_enter Tryd.func51, Tryd.ntmps51
    go_wp2_with fail
    go_ret2
    exact ⟨ret_sb HU.out.symm HK.out.symm, rfl⟩

/-- a text that may be a part behind the first -/
def partB (x : ByteArray) : Bool := starOk x || comp x.data.toList

set_option maxHeartbeats 400000 in
theorem rpart_any (x : ByteArray) (w : World) (hs : x.size ≤ 9223372036854775807) :
    Calls Tryd.prog 64 #[.string x] w fun e w' => e = .returned (.bool (partB x)) ∧ w = w' := by
  cases hst : starOk x with
  | true =>
    have HP : Hid (partB x = true) := Lib.hid (by unfold partB; rw [hst]; rfl)
    go_enter Tryd.func64, Tryd.ntmps64
    go_wp2_with (go_at_call 51; refine (rstar_any _ _ (by omega)).mono ?_; rintro e w' ⟨rfl, rfl⟩)
    go_ret
    exact ⟨ret_bool HP.out.symm, rfl⟩
  | false =>
    have HP : Hid (partB x = comp x.data.toList) := Lib.hid (by unfold partB; rw [hst]; rfl)
    go_enter Tryd.func64, Tryd.ntmps64
    go_wp2_with (first
      | (go_at_call 51; refine (rstar_any _ _ (by omega)).mono ?_; rintro e w' ⟨rfl, rfl⟩)
      | (go_at_call 59; refine (rcomponent_any _ _ (by omega)).mono ?_; rintro e w' ⟨rfl, rfl⟩))
    go_ret
    exact ⟨ret_bool HP.out.symm, rfl⟩
end Go.Proofs.YtidjmbmnfnnleaaDoor

