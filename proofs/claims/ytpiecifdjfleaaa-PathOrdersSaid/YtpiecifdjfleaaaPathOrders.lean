/-
  PathOrders returns true.
-/
import Derived.Test.YtpiecifdjfleaaaPa
namespace Go.Proofs.Ytpiecifdjfleaaa
open Go.RowKit
open Pm

theorem pcmp_lo (a b : List UInt8) : -1 ≤ pcmp a b := by rcases pcmp_range a b with h | h | h <;> omega
theorem pcmp_hi (a b : List UInt8) : pcmp a b ≤ 1 := by rcases pcmp_range a b with h | h | h <;> omega

theorem orders_eq (a b : ByteArray) : ((pcmp a.data.toList b.data.toList == 0) != (a.toList == b.toList)) = false := by
  rw [Lib.toList_data, Lib.toList_data]
  by_cases h : pcmp a.data.toList b.data.toList = 0
  · have := pcmp_zero h
    rw [this]
    simp [pcmp_self]
  · have h2 : ¬ a.data.toList = b.data.toList := fun e => h (by rw [e]; exact pcmp_self _)
    rw [beq_eq_false_iff_ne.2 h, beq_eq_false_iff_ne.2 h2]
    rfl

set_option maxHeartbeats 4000000 in
set_option maxRecDepth 100000 in
theorem pathOrders_long (a b c : ByteArray) (w : World) (ha : a.size ≤ 9223372036854775807) (hb : b.size ≤ 9223372036854775807) (hc : c.size ≤ 9223372036854775807)
    (hl : 400 < a.size ∨ 400 < b.size ∨ 400 < c.size) :
    Calls Try.prog 3 #[.string a, .string b, .string c] w fun e w' => e = .returned (.bool true) ∧ Below w.heap.size w w' := by
  rcases Nat.lt_or_ge 400 a.size with h1 | h1
  · clear hl
    go_enter Try.func3, Try.ntmps3
    go_wp2_with (first
      | (go_at_call 5; refine (long_any _ _ (by omega)).mono ?_; rintro e w' ⟨rfl, rfl⟩)
      | (go_at_call 7; refine (awake_any _).mono ?_; rintro e w' ⟨rfl, hbl⟩))
    go_ret
    exact ⟨rfl, hbl⟩
  · rcases Nat.lt_or_ge 400 b.size with h2 | h2
    · clear hl
      go_enter Try.func3, Try.ntmps3
      go_wp2_with (first
        | (go_at_call 5; refine (long_any _ _ (by omega)).mono ?_; rintro e w' ⟨rfl, rfl⟩)
        | (go_at_call 7; refine (awake_any _).mono ?_; rintro e w' ⟨rfl, hbl⟩))
      go_ret
      exact ⟨rfl, hbl⟩
    · have h3 : 400 < c.size := by omega
      clear hl
      go_enter Try.func3, Try.ntmps3
      go_wp2_with (first
        | (go_at_call 5; refine (long_any _ _ (by omega)).mono ?_; rintro e w' ⟨rfl, rfl⟩)
        | (go_at_call 7; refine (awake_any _).mono ?_; rintro e w' ⟨rfl, hbl⟩))
      go_ret
      exact ⟨rfl, hbl⟩

set_option maxHeartbeats 4000000 in
set_option maxRecDepth 100000 in
theorem pathOrders_no (a b c : ByteArray) (w : World) (ha : a.size ≤ 400) (hb : b.size ≤ 400) (hc : c.size ≤ 400)
    (hv : ¬ (pathOk a.data.toList = true ∧ pathOk b.data.toList = true ∧ pathOk c.data.toList = true)) :
    Calls Try.prog 3 #[.string a, .string b, .string c] w fun e w' => e = .returned (.bool true) ∧ Below w.heap.size w w' := by
  cases va : pathOk a.data.toList with
  | false =>
    clear hv
    go_enter Try.func3, Try.ntmps3
    go_wp2_with (first
      | (go_at_call 5; refine (long_any _ _ (by omega)).mono ?_; rintro e w' ⟨rfl, rfl⟩)
      | (go_at_call 6; refine (valid_any _ _ (by omega)).mono ?_; rintro e w' ⟨rfl, rfl⟩)
      | (go_at_call 7; refine (awake_any _).mono ?_; rintro e w' ⟨rfl, hbl⟩))
    go_ret
    exact ⟨rfl, hbl⟩
  | true =>
    cases vb : pathOk b.data.toList with
    | false =>
      clear hv
      go_enter Try.func3, Try.ntmps3
      go_wp2_with (first
        | (go_at_call 5; refine (long_any _ _ (by omega)).mono ?_; rintro e w' ⟨rfl, rfl⟩)
        | (go_at_call 6; refine (valid_any _ _ (by omega)).mono ?_; rintro e w' ⟨rfl, rfl⟩)
        | (go_at_call 7; refine (awake_any _).mono ?_; rintro e w' ⟨rfl, hbl⟩))
      go_ret
      exact ⟨rfl, hbl⟩
    | true =>
      have vc : pathOk c.data.toList = false := by
        cases h : pathOk c.data.toList with
        | false => rfl
        | true => exact absurd ⟨va, vb, h⟩ hv
      clear hv
      go_enter Try.func3, Try.ntmps3
      go_wp2_with (first
        | (go_at_call 5; refine (long_any _ _ (by omega)).mono ?_; rintro e w' ⟨rfl, rfl⟩)
        | (go_at_call 6; refine (valid_any _ _ (by omega)).mono ?_; rintro e w' ⟨rfl, rfl⟩)
        | (go_at_call 7; refine (awake_any _).mono ?_; rintro e w' ⟨rfl, hbl⟩))
      go_ret
      exact ⟨rfl, hbl⟩

set_option maxHeartbeats 4000000 in
set_option maxRecDepth 100000 in
theorem pathOrders_yes (a b c : ByteArray) (w : World) (ha : a.size ≤ 400) (hb : b.size ≤ 400) (hc : c.size ≤ 400)
    (va : pathOk a.data.toList = true) (vb : pathOk b.data.toList = true) (vc : pathOk c.data.toList = true) :
    Calls Try.prog 3 #[.string a, .string b, .string c] w fun e w' => e = .returned (.bool true) ∧ Below w.heap.size w w' := by
  have x1 := pcmp_lo a.data.toList b.data.toList
  have x2 := pcmp_hi a.data.toList b.data.toList
  have y1 := pcmp_lo b.data.toList a.data.toList
  have y2 := pcmp_hi b.data.toList a.data.toList
  have xy : (pcmp a.data.toList b.data.toList != -pcmp b.data.toList a.data.toList) = false := by rw [pcmp_turn a.data.toList]; simp
  have xe := orders_eq a b
  have HT := Lib.hid (fun h1 h2 => pcmp_le_trans (a := a.data.toList) (b := b.data.toList) (c := c.data.toList) h1 h2)
  go_enter Try.func3, Try.ntmps3
  go_wp2_with (first
    | (go_at_call 5; refine (long_any _ _ (by omega)).mono ?_; rintro e w' ⟨rfl, rfl⟩)
    | (go_at_call 6; refine (valid_any _ _ (by omega)).mono ?_; rintro e w' ⟨rfl, rfl⟩))
  refine (compare_yes a b _ (by omega) (by omega) va vb).mono ?_
  rintro e w1 ⟨rfl, hb1⟩
  go_wp2_with fail
  refine (compare_yes b a _ (by omega) (by omega) vb va).mono ?_
  rintro e w2 ⟨rfl, hb2⟩
  go_wp2_with fail
  refine (compare_yes b c _ (by omega) (by omega) vb vc).mono ?_
  rintro e w3 ⟨rfl, hb3⟩
  go_wp2_with fail
  refine (compare_yes a c _ (by omega) (by omega) va vc).mono ?_
  rintro e w4 ⟨rfl, hb4⟩
  have HB := Lib.hid (((hb1.trans (hb2.mono hb1.size)).trans (hb3.mono (hb1.trans (hb2.mono hb1.size)).size)).trans (hb4.mono (((hb1.trans (hb2.mono hb1.size)).trans (hb3.mono (hb1.trans (hb2.mono hb1.size)).size))).size))
  clear hb1 hb2 hb3 hb4
  go_wp2_with (go_at_call 7; refine (awake_any _).mono ?_; rintro e w' ⟨rfl, hbl⟩)
  all_goals first
    | (go_ret; exact ⟨rfl, HB.out.trans (hbl.mono HB.out.size)⟩)
    | (exfalso
       have h1 : pcmp a.data.toList b.data.toList ≤ 0 := by assumption
       have h2 : pcmp b.data.toList c.data.toList ≤ 0 := by assumption
       obtain ⟨k1, k2⟩ := HT.out h1 h2
       first
         | omega
         | (have h3 : pcmp a.data.toList c.data.toList = 0 := by assumption
            obtain ⟨k3, k4⟩ := k2 h3
            first
              | exact absurd k3 (by assumption)
              | (have h4 : (pcmp b.data.toList c.data.toList != 0) = true := by assumption
                 rw [k4] at h4
                 exact absurd h4 (by decide))))
    | (exfalso
       have h1 : ¬ (pcmp a.data.toList b.data.toList == 0) = (a.toList == b.toList) := by assumption
       rw [bne_eq_false_iff_eq] at xe
       exact h1 xe)

theorem pathOrders_any (a b c : ByteArray) (w : World) (ha : a.size ≤ maxLen) (hb : b.size ≤ maxLen) (hc : c.size ≤ maxLen) (_hsh : w.ShapedOpen Try.prog) :
    Calls Try.prog 3 #[.string a, .string b, .string c] w fun e w' => e = .returned (.bool true) ∧ Below w.heap.size w w' := by
  unfold maxLen at ha hb hc
  by_cases hl : 400 < a.size ∨ 400 < b.size ∨ 400 < c.size
  · exact pathOrders_long a b c w ha hb hc hl
  · by_cases hv : pathOk a.data.toList = true ∧ pathOk b.data.toList = true ∧ pathOk c.data.toList = true
    · exact pathOrders_yes a b c w (by omega) (by omega) (by omega) hv.1 hv.2.1 hv.2.2
    · exact pathOrders_no a b c w (by omega) (by omega) (by omega) hv
end Go.Proofs.Ytpiecifdjfleaaa
