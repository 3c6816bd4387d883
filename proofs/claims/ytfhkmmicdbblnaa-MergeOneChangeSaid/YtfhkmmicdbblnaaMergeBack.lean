/-
  MergeBack returns true.
-/
import Derived.Test.YtfhkmmicdbblnaaB1
namespace Go.Proofs.Ytfhkmmicdbblnaa
set_option linter.unusedSimpArgs false
set_option linter.unusedVariables false
open Go.RowKit

theorem longQ {ts : List ByteArray} {q : Bool} (hq : longB ts = q) : Hid (∀ A c W, RT W A c ts → Calls Try.prog 10 #[.slice A ts.length c] W fun e w' => e = .returned (.bool q) ∧ W = w') := Lib.hid (by subst hq; exact fun A c W h => long_any A c ts W h)
theorem long_two {a b : ByteArray} (h : longB [a, b] = false) : a.size ≤ 1000 ∧ b.size ≤ 1000 := ⟨long_no h a (by simp), long_no h b (by simp)⟩

set_option maxHeartbeats 2000000 in
set_option maxRecDepth 100000 in
theorem mergeBack_any (a b : ByteArray) (w : World) (ha : a.size ≤ maxLen) (hb : b.size ≤ maxLen) (hsh : w.ShapedOpen Try.prog) :
    Calls Try.prog 6 #[.string a, .string b] w fun e w' => e = .returned (.bool true) ∧ Below w.heap.size w w' := by
  clear hsh
  cases hq : longB [a, b] with
  | true =>
    have HLG := longQ hq
    clear hq ha hb
    go_enter Try.func6, Try.ntmps6
    go_wp2_with (first
      | (go_at_call 10; refine (HLG.out _ _ _ (RT.two rfl)).mono ?_; rintro e w' ⟨rfl, rfl⟩)
      | (go_at_call 11; refine (awake_any _).mono ?_; rintro e w' ⟨rfl, hbl⟩))
    go_ret
    exact ⟨rfl, go3 (below_alloc _ _) hbl⟩
  | false =>
    have HLG := longQ hq
    obtain ⟨sa, sb⟩ := long_two hq
    have HD := Lib.hid (fun W => diff_any a b W (by omega) (by omega))
    have HD2 := Lib.hid (fun W => diff_any a a W (by omega) (by omega))
    unfold RetH at HD HD2
    rw [diffT_self] at HD2
    cases hf : fewB [a, b] with
    | false =>
      rw [diffT_bad hf, (dv_bad hf).2] at HD
      clear hq ha hb hf sa sb HD2
      go_enter Try.func6, Try.ntmps6
      go_wp2_with (first
        | (go_at_call 10; refine (HLG.out _ _ _ (RT.two rfl)).mono ?_; rintro e w' ⟨rfl, rfl⟩)
        | (go_at_call 17; refine (HD.out _).mono ?_; rintro e w1 ⟨A1, c1, rfl, rf, hb⟩; have HB1 := Lib.hid (go3 (below_alloc _ _) hb); clear rf hb)
        | (go_at_call 11; refine (awake_any _).mono ?_; rintro e w' ⟨rfl, hbl⟩))
      go_ret
      exact ⟨rfl, go3 HB1.out hbl⟩
    | true =>
      rw [(dv_good hf).2] at HD
      rw [(dv_good (few_left hf)).2] at HD2
      have HA := Lib.hid (fun A c W h => applyD_any a b A c W (by omega) (by omega) hf h)
      unfold RetS at HA
      have hss := str_self b
      have hnil := diffT_nil hf
      by_cases hab : a = b
      · have h0 : (diffT a b).length = 0 := hnil.2 hab
        have hE := str_self a
        have HAB := Lib.hid hab
        have hE2 : (a.toList == b.toList) = true := by rw [hab]; simp
        rw [h0] at HD HA
        generalize diffT a b = hs at *
        clear hq ha hb hf sa sb hnil h0 hab
        go_enter Try.func6, Try.ntmps6
        go_wp2_with (first
          | (go_at_call 10; refine (HLG.out _ _ _ (RT.two rfl)).mono ?_; rintro e w' ⟨rfl, rfl⟩)
          | (go_at_call_of 17 (Value.string b); refine (HD.out _).mono ?_; rintro e w1 ⟨A1, c1, rfl, rf, hb⟩; have HB1 := Lib.hid (go3 (below_alloc _ _) hb); have HRF := Lib.hid rf; clear rf hb)
          | (go_at_call 18; refine (HA.out _ _ _ HRF.out).mono ?_; rintro e w2 ⟨rfl, hb⟩; have HB2 := Lib.hid (go3 HB1.out hb); clear hb)
          | (go_at_call 17; refine (HD2.out _).mono ?_; rintro e w3 ⟨A3, c3, rfl, rf, hb⟩; have HB3 := Lib.hid (go3 HB2.out hb); clear rf hb)
          | (go_at_call 11; refine (awake_any _).mono ?_; rintro e w' ⟨rfl, hbl⟩))
        go_ret
        exact ⟨rfl, go3 HB3.out hbl⟩
      · have h0 : 0 < (diffT a b).length := by
          rcases Nat.eq_zero_or_pos (diffT a b).length with h | h
          · exact absurd (hnil.1 h) hab
          · exact h
        have h1 : (((diffT a b).length : Int) == 0) = false := by rw [beq_eq_false_iff_ne]; omega
        have hE := txt_ne hab
        generalize diffT a b = hs at *
        clear hq ha hb hf sa sb hnil hab
        go_enter Try.func6, Try.ntmps6
        go_wp2_with (first
          | (go_at_call 10; refine (HLG.out _ _ _ (RT.two rfl)).mono ?_; rintro e w' ⟨rfl, rfl⟩)
          | (go_at_call_of 17 (Value.string b); refine (HD.out _).mono ?_; rintro e w1 ⟨A1, c1, rfl, rf, hb⟩; have HB1 := Lib.hid (go3 (below_alloc _ _) hb); have HRF := Lib.hid rf; clear rf hb)
          | (go_at_call 18; refine (HA.out _ _ _ HRF.out).mono ?_; rintro e w2 ⟨rfl, hb⟩; have HB2 := Lib.hid (go3 HB1.out hb); clear hb)
          | (go_at_call 17; refine (HD2.out _).mono ?_; rintro e w3 ⟨A3, c3, rfl, rf, hb⟩; have HB3 := Lib.hid (go3 HB2.out hb); clear rf hb)
          | (go_at_call 11; refine (awake_any _).mono ?_; rintro e w' ⟨rfl, hbl⟩))
        go_ret
        exact ⟨rfl, go3 HB3.out hbl⟩
end Go.Proofs.Ytfhkmmicdbblnaa

