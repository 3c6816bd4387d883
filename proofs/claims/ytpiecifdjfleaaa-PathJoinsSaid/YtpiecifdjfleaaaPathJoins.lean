/-
  PathJoins returns true.
-/
import Derived.Test.YtpiecifdjfleaaaPj
import Derived.Test.YtpiecifdjfleaaaAp
namespace Go.Proofs.Ytpiecifdjfleaaa
set_option linter.unusedSimpArgs false
set_option linter.unusedVariables false
open Go.RowKit
open Pm

theorem lens_le {xs : List ByteArray} {m : Nat} (h : ∀ x ∈ xs, x.size ≤ m) : Lib.lens (datj xs) ≤ xs.length * m := by
  induction xs with
  | nil => simp [datj, Lib.lens]
  | cons x xs ih =>
    have h1 := ih fun y hy => h y (List.mem_cons_of_mem _ hy)
    have h2 := h x (List.mem_cons_self ..)
    have e : Lib.lens (datj (x :: xs)) = x.data.toList.length + Lib.lens (datj xs) := by simp [datj, Lib.lens]
    rw [e, List.length_cons, Nat.succ_mul, ← Lib.size_eq]
    omega
theorem join_le {xs : List ByteArray} {m : Nat} (h : ∀ x ∈ xs, x.size ≤ m) : (Lib.join (datj xs) [47]).length ≤ xs.length * (m + 1) := by
  cases xs with
  | nil => simp [datj, Lib.join_nil]
  | cons x xs =>
    have h1 := lens_le h
    have e : datj (x :: xs) = x.data.toList :: datj xs := rfl
    rw [e, Lib.join_length, ← e]
    have e2 : (datj xs).length = xs.length := by simp [datj]
    rw [e2]
    rw [List.length_cons, Nat.succ_mul] at h1
    have e3 : (xs.length + 1) * (m + 1) = xs.length * m + xs.length + m + 1 := by rw [Nat.add_mul, Nat.mul_add]; omega
    show _ ≤ (xs.length + 1) * (m + 1)
    rw [e3]
    simp only [List.length_cons, List.length_nil, Nat.zero_add, Nat.one_mul]
    omega

set_option maxHeartbeats 4000000 in
set_option maxRecDepth 100000 in
theorem pathJoins_any (A : Option Addr) (c : Nat) (xs : List ByteArray) (w : World) (h : RT w A c xs) (hs9 : ∀ x ∈ xs, x.size ≤ maxLen) (hsh : w.ShapedOpen Try.prog) :
    Calls Try.prog 4 #[.slice A xs.length c] w fun e w' => e = .returned (.bool true) ∧ Below w.heap.size w w' := by
  clear hsh
  have h1 := h.1
  have h2 := h.2.1
  have HR := Lib.hid h
  have HS := Lib.hid hs9
  clear h hs9
  by_cases hn : 20 < xs.length
  · go_enter Try.func4, Try.ntmps4
    go_wp2_with (go_at_call 7; refine (awake_any _).mono ?_; rintro e w' ⟨rfl, hbl⟩)
    go_ret
    exact ⟨rfl, hbl⟩
  have hnB : decide (20 < xs.length) = false := decide_eq_false hn
  go_enter Try.func4, Try.ntmps4
  go_wp2_with fail
  go_loop [3, 18] (fun b i => ∃ (k : Nat) (ok : Bool), k ≤ xs.length ∧ i = .int .i64 k ∧ b = .bool ok ∧ Hid (ok = (decide (2 ≤ xs.length) && (xs.take k).all (fun x => comp x.data.toList))) ∧ Hid (∀ x ∈ xs.take k, x.size ≤ 400)) (fun _ i => xs.length - (intOf i).toNat)
  case atStart => exact ⟨0, _, Nat.zero_le _, rfl, rfl, Lib.hid (by simp; omega), Lib.hid (by simp)⟩
  case round =>
    obtain ⟨k, ok, hk, rfl, rfl, HK, HL⟩ := hrel
    by_cases hlt : k < xs.length
    · obtain ⟨x, hx⟩ : ∃ x, xs[k]? = some x := ⟨_, List.getElem?_eq_getElem hlt⟩
      obtain ⟨b, o, rfl, hbl, hc⟩ := HR.out.2.2 (by omega)
      have hcell := hc k x hx
      have hxs := HS.out x (List.mem_of_getElem? hx)
      unfold maxLen at hxs
      have HX := Lib.hid hx
      clear hx hc hbl
      by_cases hlong : 400 < x.size
      · go_wp2_with (first
          | (go_at_call 5; refine (long_any _ _ (by omega)).mono ?_; rintro e w' ⟨rfl, rfl⟩)
          | (go_at_call 7; refine (awake_any _).mono ?_; rintro e w' ⟨rfl, hbl⟩))
        go_ret
        exact ⟨rfl, hbl⟩
      · have HL2 : Hid (∀ y ∈ xs.take (k + 1), y.size ≤ 400) := Lib.hid (by
          intro y hy
          rw [List.take_add_one, HX.out] at hy
          rcases List.mem_append.1 hy with hy | hy
          · exact HL.out y hy
          · simp at hy
            subst hy
            omega)
        cases ok with
        | false =>
          have HK2 : Hid (false = (decide (2 ≤ xs.length) && (xs.take (k + 1)).all (fun x => comp x.data.toList))) := Lib.hid (by rw [all_step HX.out, ← Bool.and_assoc, ← HK.out]; rfl)
          go_wp2_with (go_at_call 5; refine (long_any _ _ (by omega)).mono ?_; rintro e w' ⟨rfl, rfl⟩)
          go_round
          case rel => exact ⟨k + 1, false, by omega, by go_num, rfl, HK2, HL2⟩
          case measure => simp [intOf]; omega
        | true =>
          have HK2 : Hid (comp x.data.toList = (decide (2 ≤ xs.length) && (xs.take (k + 1)).all (fun x => comp x.data.toList))) := Lib.hid (by rw [all_step HX.out, ← Bool.and_assoc, ← HK.out]; rfl)
          go_wp2_with (first
            | (go_at_call 5; refine (long_any _ _ (by omega)).mono ?_; rintro e w' ⟨rfl, rfl⟩)
            | (go_at_call 9; refine (rcomponent_any _ _ (by omega)).mono ?_; rintro e w' ⟨rfl, rfl⟩))
          go_round
          case rel => exact ⟨k + 1, _, by omega, by go_num, rfl, HK2, HL2⟩
          case measure => simp [intOf]; omega
    · have HL3 : Hid (∀ y ∈ xs, y.size ≤ 400) := Lib.hid (by
        intro y hy
        exact HL.out y (by rw [List.take_of_length_le (by omega)]; exact hy))
      have HK3 : Hid (ok = joinOk xs) := Lib.hid (by
        have := HK.out
        rw [List.take_of_length_le (by omega)] at this
        exact this)
      have hjl : (Lib.join (datj xs) [47]).length ≤ 100000 := by
        have h5 := join_le HL3.out
        have h6 : xs.length * (400 + 1) ≤ 20 * (400 + 1) := Nat.mul_le_mul_right _ (by omega)
        omega
      have HJ := Lib.hid hjl
      clear hjl HK HL
      go_wp2_with (at_builtin; refine wpList_append_texts rfl _ _ rfl w.heap.size (.slice none 0 0) [] xs A c rfl rfl (OT.nil _ _) HR.out (by simp; omega) (Nat.le_refl _) ?_; intro v1 w1 hown hg _)
      obtain ⟨B, d, rfl, hr1⟩ := hown.read
      have hb1 : Below w.heap.size w w1 := (Below.refl _ _).grown hg (Nat.le_refl _) (by intro k h; simp [Value.ownBlock] at h)
      have HR1 := Lib.hid hr1
      clear hown hr1 hg
      refine (pjoin_any A c xs w1 (HR.out.below hb1) (by omega) (by have := HJ.out; omega) (fun x hx => by have := HL3.out x hx; omega)).mono ?_
      rintro e w2 ⟨rfl, hb2⟩
      have HB2 := Lib.hid (hb1.trans (hb2.mono hb1.size))
      have hsm := same_any B A d c ([] ++ xs) xs w2 (HR1.out.below hb2) (HR.out.below HB2.out)
      rw [show decide ([] ++ xs = xs) = true from by simp] at hsm
      have HSM := Lib.hid hsm
      clear hsm hb1
      cases ok with
      | false =>
        rw [← HK3.out]
        simp only [Bool.false_eq_true, if_false]
        go_wp2_with (first
          | (go_at_call 11; refine HSM.out.mono ?_; rintro e w3 ⟨rfl, hb3⟩)
          | (go_at_call 7; refine (awake_any _).mono ?_; rintro e w4 ⟨rfl, hb4⟩))
        go_ret
        have HB3 := HB2.out.trans (hb3.mono HB2.out.size)
        exact ⟨rfl, HB3.trans (hb4.mono HB3.size)⟩
      | true =>
        rw [← HK3.out]
        simp only [if_true]
        go_wp2_with (go_at_call 11; refine HSM.out.mono ?_; rintro e w3 ⟨rfl, hb3⟩)
        have HB3 := Lib.hid (HB2.out.trans (hb3.mono HB2.out.size))
        refine (rjoin_any A c xs w3 (HR.out.below HB3.out) (by omega) (by have := HJ.out; omega)).mono ?_
        rintro e w4 ⟨rfl, hb4⟩
        have HB4 := Lib.hid (HB3.out.trans (hb4.mono HB3.out.size))
        clear hb3 hb4
        go_wp2_with (go_at_call 7; refine (awake_any _).mono ?_; rintro e w5 ⟨rfl, hb5⟩)
        go_ret
        exact ⟨rfl, HB4.out.trans (hb5.mono HB4.out.size)⟩
end Go.Proofs.Ytpiecifdjfleaaa
