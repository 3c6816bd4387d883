/-
  The walks of cmp.Compare at bytes and of Compare on paths; long.
-/
import Derived.Test.YtpiecifdjfleaaaDoorPw1
import Derived.Below
import Derived.Deep.Draws
namespace Go.Proofs.YtpiecifdjfleaaaDoor
set_option linter.unusedSimpArgs false
set_option linter.unusedVariables false
open Go.RowKit
open Pm

theorem cmpByte_any (x y : Int) (w : World) :
    Calls Tryd.prog 32 #[.int .u8 x, .int .u8 y] w fun e w' => e = .returned (.int .i64 (Lib.compareInt x y)) ∧ w = w' := by
  rcases Int.lt_trichotomy x y with h | h | h
  · go_enter Tryd.func32, Tryd.ntmps32
    go_wp2
    go_ret
    exact ⟨ret_int (by unfold Lib.compareInt; rw [if_pos h]), rfl⟩
  · subst h
    go_enter Tryd.func32, Tryd.ntmps32
    go_wp2
    go_ret
    exact ⟨ret_int (by unfold Lib.compareInt; rw [if_neg (by omega), if_neg (by omega)]), rfl⟩
  · have h' : ¬ x < y := by omega
    go_enter Tryd.func32, Tryd.ntmps32
    go_wp2
    go_ret
    exact ⟨ret_int (by unfold Lib.compareInt; rw [if_neg (by omega), if_pos h]), rfl⟩

theorem cmpInt_any (x y : Int) (w : World) :
    Calls Tryd.prog 33 #[.int .i64 x, .int .i64 y] w fun e w' => e = .returned (.int .i64 (Lib.compareInt x y)) ∧ w = w' :=
  (Tryd.cmp_Compare_int x y w).mono fun _ _ ⟨he, hw⟩ => ⟨he, hw.symm⟩

/-- the bytes from k on, where the first k are equal -/
theorem pc_drop (a b : List UInt8) (k : Nat) (x y : UInt8) (ha : a[k]? = some x) (hb : b[k]? = some y) (h : pcmp a b = pcmp (a.drop k) (b.drop k)) :
    (x = y → pcmp a b = pcmp (a.drop (k + 1)) (b.drop (k + 1))) ∧
    (x ≠ y → pcmp a b = if x = 47 then -1 else if y = 47 then 1 else if x < y then -1 else 1) := by
  obtain ⟨ha1, rfl⟩ := List.getElem?_eq_some_iff.1 ha
  obtain ⟨hb1, rfl⟩ := List.getElem?_eq_some_iff.1 hb
  rw [List.drop_eq_getElem_cons ha1, List.drop_eq_getElem_cons hb1] at h
  constructor
  · intro e
    rw [h, pcmp, if_pos e]
  · intro e
    rw [h, pcmp, if_neg e]
theorem pc_end (a b : List UInt8) (k : Nat) (h : pcmp a b = pcmp (a.drop k) (b.drop k)) (hk : k = a.length ∨ k = b.length) (hka : k ≤ a.length) (hkb : k ≤ b.length) :
    pcmp a b = Lib.compareInt (a.length : Int) (b.length : Int) := by
  rw [h]
  unfold Lib.compareInt
  by_cases ea : k = a.length
  · have : a.drop k = [] := List.drop_of_length_le (by omega)
    rw [this]
    by_cases eb : k = b.length
    · have : b.drop k = [] := List.drop_of_length_le (by omega)
      rw [this, if_neg (by omega), if_neg (by omega)]
      rfl
    · rw [List.drop_eq_getElem_cons (show k < b.length by omega), if_pos (by omega)]
      rfl
  · have eb : k = b.length := by omega
    have : b.drop k = [] := List.drop_of_length_le (by omega)
    rw [this, List.drop_eq_getElem_cons (show k < a.length by omega), if_neg (by omega), if_pos (by omega)]
    rfl

theorem byte_eqB {x y : UInt8} (h : x = y) : ((x.toNat : Int) == (y.toNat : Int)) = true := by rw [h]; simp
theorem byte_neB {x y : UInt8} (h : x ≠ y) : ((x.toNat : Int) == (y.toNat : Int)) = false := by
  rw [beq_eq_false_iff_ne]
  intro e
  exact h (UInt8.toNat_inj.1 (by omega))
theorem byte_47 {x : UInt8} (h : x = 47) : ((x.toNat : Int) == 47) = true := by rw [h]; rfl
theorem byte_n47 {x : UInt8} (h : x ≠ 47) : ((x.toNat : Int) == 47) = false := by
  rw [beq_eq_false_iff_ne]
  intro e
  exact h (UInt8.toNat_inj.1 (by show x.toNat = 47; omega))

theorem byte_cmp {x y : UInt8} (h : x ≠ y) : (if x < y then -1 else 1 : Int) = Lib.compareInt (x.toNat : Int) (y.toNat : Int) := by
  unfold Lib.compareInt
  have hne : ¬ x.toNat = y.toNat := fun e => h (UInt8.toNat_inj.1 e)
  by_cases hlt : x < y
  · have := UInt8.lt_iff_toNat_lt.1 hlt
    rw [if_pos hlt, if_pos (by omega)]
  · have : ¬ x.toNat < y.toNat := fun e => hlt (UInt8.lt_iff_toNat_lt.2 e)
    rw [if_neg hlt, if_neg (by omega), if_pos (by omega)]

theorem ret_ii {k l : IntKind} {a b c d : Int} (h : a = c) (h2 : b = d) : Ending.returned (.tuple #[.int k a, .int l b]) = .returned (.tuple #[.int k c, .int l d]) := by rw [h, h2]
theorem below_drewN {B : Nat} {a w : World} (h : Below B a w) (n : Nat) : Below B a (w.drewN n) := ⟨h.os, h.tape, h.output, h.size, h.block⟩
theorem quiet_left {P : Program} {f : FuncId} {args : Array Value} {w : World} {n : Nat} {v : Value}
    (h : Calls P f args (w.drewN n) fun e w' => e = .returned v ∧ w.drewN n = w') : Calls P f args (w.drewN n) fun e w'' => e = .returned v ∧ ∃ m, w'' = w.drewN m :=
  h.mono fun _ _ ⟨he, hm⟩ => ⟨he, n, hm.symm⟩
theorem quiet_add_left {P : Program} {f : FuncId} {args : Array Value} {w : World} {a n : Nat} {v : Value}
    (h : Calls P f args (w.drewN (a + n)) fun e w' => e = .returned v ∧ w.drewN (a + n) = w') :
    Calls P f args (w.drewN (a + n)) fun e w'' => e = .returned v ∧ ∃ m, w'' = w.drewN (a + m) :=
  h.mono fun _ _ ⟨he, hm⟩ => ⟨he, n, hm.symm⟩

set_option maxHeartbeats 1000000 in
theorem compare_yes (a b : ByteArray) (w : World) (ha : a.size ≤ 1000000) (hb : b.size ≤ 1000000) (hva : pathOk a.data.toList = true) (hvb : pathOk b.data.toList = true) :
    Calls Tryd.prog 16 #[.string a, .string b] w fun e w' =>
      e = .returned (.tuple #[.int .i64 (pcmp a.data.toList b.data.toList), .int .i64 0]) ∧ Below w.heap.size w w' := by
  go_enter Tryd.func16, Tryd.ntmps16
  go_wp2_with (first
    | (go_at_call_of 13 (Value.string a); refine (valid_any a _ ha).mono ?_; rintro e w' ⟨rfl, rfl⟩)
    | (go_at_call_of 13 (Value.string b); refine (valid_any b _ hb).mono ?_; rintro e w' ⟨rfl, rfl⟩))
  have HPC := Lib.hid (show pcmp a.data.toList b.data.toList = pcmp (a.data.toList.drop 0) (b.data.toList.drop 0) from rfl)
  have hsa := Lib.size_eq a
  have hsb := Lib.size_eq b
  have HSA := Lib.hid hsa
  have HSB := Lib.hid hsb
  clear hsa hsb
  go_loopw [20] (fun i wr => ∃ k : Nat, k ≤ a.size ∧ k ≤ b.size ∧ i = .int .i64 k ∧ Hid (pcmp a.data.toList b.data.toList = pcmp (a.data.toList.drop k) (b.data.toList.drop k)) ∧ Below w.heap.size w wr)
    (fun i _ => a.size - (intOf i).toNat)
  case atStart => exact ⟨0, Nat.zero_le _, Nat.zero_le _, rfl, HPC, Below.refl _ _⟩
  case round =>
    obtain ⟨k, hka, hkb, rfl, HK, hbel⟩ := hrel
    by_cases hlt : k < a.size ∧ k < b.size
    · obtain ⟨h1, h2⟩ := hlt
      have HD := Lib.hid (pc_drop _ _ k _ _ (Lib.data_getElem? a k h1) (Lib.data_getElem? b k h2) HK.out)
      by_cases he : a[k] = b[k]
      · have heB := byte_eqB he
        have HN := Lib.hid (HD.out.1 he)
        clear he
        go_wp2_with fail
        go_quiet (fail)
        go_wp2_with fail
        go_roundw
        case rel => exact ⟨k + 1, by omega, by omega, by go_num, HN, by repeat (first | exact hbel | apply Below.drew | apply below_drewN)⟩
        case measure => simp [intOf]; omega
      · have heB := byte_neB he
        have HN := Lib.hid (HD.out.2 he)
        by_cases hx : a[k] = 47
        · have hxB := byte_47 hx
          have HR := Lib.hid (HN.out.trans (if_pos hx))
          clear he hx
          go_wp2_with fail
          go_quiet (fail)
          go_wp2_with fail
          go_ret2
          exact ⟨ret_ii HR.out.symm rfl, by repeat (first | exact hbel | apply Below.drew | apply below_drewN)⟩
        · have hxB := byte_n47 hx
          by_cases hy : b[k] = 47
          · have hyB := byte_47 hy
            have HR := Lib.hid (HN.out.trans ((if_neg hx).trans (if_pos hy)))
            clear he hx hy
            go_wp2_with fail
            go_quiet (fail)
            go_wp2_with fail
            go_ret2
            exact ⟨ret_ii HR.out.symm rfl, by repeat (first | exact hbel | apply Below.drew | apply below_drewN)⟩
          · have hyB := byte_n47 hy
            have HR := Lib.hid (HN.out.trans ((if_neg hx).trans (if_neg hy)))
            have HC := Lib.hid (byte_cmp he)
            clear he hx hy
            go_wp2_with fail
            go_quiet (fail)
            go_wp2_with fail
            go_quiet ((go_at_call 32; exact quiet_add_left (cmpByte_any _ _ _)))
            go_wp2_with fail
            go_ret2
            exact ⟨ret_ii (HC.out.symm.trans HR.out.symm) rfl, by repeat (first | exact hbel | apply Below.drew | apply below_drewN)⟩
    · have HE := Lib.hid (pc_end _ _ k HK.out (by rw [← HSA.out, ← HSB.out]; omega) (by rw [← HSA.out]; omega) (by rw [← HSB.out]; omega))
      go_wp2_with (go_at_call 33; refine (cmpInt_any _ _ _).mono ?_; rintro e w' ⟨rfl, rfl⟩)
      go_ret2
      exact ⟨ret_ii (by rw [HE.out, ← HSA.out, ← HSB.out]) rfl, by repeat (first | exact hbel | apply Below.drew | apply below_drewN)⟩

set_option maxHeartbeats 1000000 in
theorem compare_no (a b : ByteArray) (w : World) (ha : a.size ≤ 1000000) (hb : b.size ≤ 1000000) (hv : pathOk a.data.toList = false ∨ pathOk b.data.toList = false) :
    Calls Tryd.prog 16 #[.string a, .string b] w fun e w' => e = .returned (.tuple #[.int .i64 0, .int .i64 20]) ∧ w = w' := by
  by_cases h1 : pathOk a.data.toList = false
  · clear hv
    go_enter Tryd.func16, Tryd.ntmps16
    go_wp2_with (go_at_call_of 13 (Value.string a); refine (valid_any a _ ha).mono ?_; rintro e w' ⟨rfl, rfl⟩)
    go_ret2
    exact ⟨rfl, rfl⟩
  · have h2 : pathOk b.data.toList = false := by
      rcases hv with h | h
      · exact absurd h h1
      · exact h
    have h1' : pathOk a.data.toList = true := by simpa using h1
    clear hv h1
    go_enter Tryd.func16, Tryd.ntmps16
    go_wp2_with (first
      | (go_at_call_of 13 (Value.string a); refine (valid_any a _ ha).mono ?_; rintro e w' ⟨rfl, rfl⟩)
      | (go_at_call_of 13 (Value.string b); refine (valid_any b _ hb).mono ?_; rintro e w' ⟨rfl, rfl⟩))
    go_ret2
    exact ⟨rfl, rfl⟩

theorem long_any (s : ByteArray) (w : World) (hs : s.size ≤ 9223372036854775807) :
    Calls Tryd.prog 10 #[.string s] w fun e w' => e = .returned (.bool (decide (400 < s.size))) ∧ w = w' := by
  go_enter Tryd.func10, Tryd.ntmps10
  go_wp2_with fail
  go_ret
  refine ⟨ret_bool ?_, rfl⟩
  rw [Bool.eq_iff_iff]
  simp
  try omega
end Go.Proofs.YtpiecifdjfleaaaDoor
