/-
  The reference's Within, whole; it is the program's.
-/
import Derived.Test.YtidjmbmnfnnleaaDoorQ14
namespace Go.Proofs.YtidjmbmnfnnleaaDoor
set_option linter.unusedSimpArgs false
set_option linter.unusedVariables false
open Go.RowKit
open Pm

set_option maxHeartbeats 2000000 in
theorem rwithin_chk (A B : Option Addr) (c d : Nat) (xs ys : List ByteArray) (r t : Bool) (w : World) (h : RT w A c xs) (k : RT w B d ys)
    (hsx : ∀ x ∈ xs, x.size ≤ 9223372036854775807) (hsy : ∀ x ∈ ys, x.size ≤ 9223372036854775807) (hb : (checkP xs r != 0) = true ∨ ((checkP xs r != 0) = false ∧ (checkP ys t != 0) = true)) :
    Calls Tryd.prog 71 #[.agg #[.slice A xs.length c, .bool r], .agg #[.slice B ys.length d, .bool t]] w fun e w' => e = .returned (.bool false) ∧ Below w.heap.size w w' := by
  have HX := Lib.hid h
  have HY := Lib.hid k
  have HCX := Lib.hid (fun W (h : RT W A c xs) => rcheck_any A c xs r W h hsx)
  have HCY := Lib.hid (fun W (h : RT W B d ys) => rcheck_any B d ys t W h hsy)
  clear h k hsx hsy
  generalize checkP xs r = n at *
  generalize checkP ys t = m at *
  rcases hb with hn | ⟨hn, hm⟩
  · go_enter Tryd.func71, Tryd.ntmps71
    go_wp2_with (go_at_call_of 41 (Value.agg #[.slice A xs.length c, .bool r]); refine (HCX.out _ (HX.out.below (below_alloc2 _ _ _))).mono ?_; rintro e w1 ⟨rfl, hb⟩; have HB1 := Lib.hid ((below_alloc2 w _ _).trans (hb.mono (below_alloc2 w _ _).size)); clear hb)
    go_ret
    exact ⟨rfl, HB1.out⟩
  · go_enter Tryd.func71, Tryd.ntmps71
    go_wp2_with (first
      | (go_at_call_of 41 (Value.agg #[.slice A xs.length c, .bool r]); refine (HCX.out _ (HX.out.below (below_alloc2 _ _ _))).mono ?_; rintro e w1 ⟨rfl, hb⟩; have Q1 := Lib.hid ((PX.snd w (.slice A xs.length c) (.bool r) (.slice B ys.length d) (.bool t) _).below hb); obtain ⟨q1, q2, q3, q4, q5⟩ := Q1.out; have HB1 := Lib.hid ((below_alloc2 w _ _).trans (hb.mono (below_alloc2 w _ _).size)); clear hb)
      | (go_at_call_of 41 (Value.agg #[.slice B ys.length d, .bool t]); refine (HCY.out _ (HY.out.below HB1.out)).mono ?_; rintro e w2 ⟨rfl, hb⟩; have HB2 := Lib.hid (HB1.out.trans (hb.mono HB1.out.size)); clear hb))
    go_ret
    exact ⟨rfl, HB2.out⟩

theorem rwithin_any (A B : Option Addr) (c d : Nat) (xs ys : List ByteArray) (r t : Bool) (w : World) (h : RT w A c xs) (k : RT w B d ys)
    (hsx : ∀ x ∈ xs, x.size ≤ 9223372036854775807) (hsy : ∀ x ∈ ys, x.size ≤ 9223372036854775807) :
    Calls Tryd.prog 71 #[.agg #[.slice A xs.length c, .bool r], .agg #[.slice B ys.length d, .bool t]] w fun e w' => e = .returned (.bool (withinOk rinsB xs ys r t)) ∧ Below w.heap.size w w' := by
  by_cases hn : checkP xs r = 0
  · by_cases hm : checkP ys t = 0
    · have hW : withinOk rinsB xs ys r t = insideOk rinsB xs ys r t := by unfold withinOk; rw [hn, hm]; rfl
      rw [hW]
      unfold insideOk
      cases hl : lensIn xs.length ys.length r t with
      | true => exact rwithin_good A B c d xs ys r t w h k hsx hsy hl hn hm
      | false => exact rwithin_bad A B c d xs ys r t w h k hsx hsy hl hn hm
    · have hW : withinOk rinsB xs ys r t = false := by unfold withinOk; rw [beq_eq_false_iff_ne.2 hm, Bool.false_and, Bool.and_false]
      rw [hW]
      exact rwithin_chk A B c d xs ys r t w h k hsx hsy (.inr ⟨by rw [hn]; rfl, by rw [bne_iff_ne]; exact hm⟩)
  · have hW : withinOk rinsB xs ys r t = false := by unfold withinOk; rw [beq_eq_false_iff_ne.2 hn, Bool.false_and]
    rw [hW]
    exact rwithin_chk A B c d xs ys r t w h k hsx hsy (.inl (by rw [bne_iff_ne]; exact hn))

/-- the two are one -/
theorem within_agree (xs ys : List ByteArray) (r t : Bool) : withinOk insB xs ys r t = withinOk rinsB xs ys r t := by
  unfold withinOk
  by_cases hn : checkP xs r = 0
  · by_cases hm : checkP ys t = 0
    · have hx := parts_all (check_zero hn).2.2
      have hy := parts_all (check_zero hm).2.2
      have key : okOf insB (xs.zip ys) = okOf rinsB (xs.zip ys) := by
        unfold okOf
        rw [Bool.eq_iff_iff, List.all_eq_true, List.all_eq_true]
        constructor
        · intro h z hz
          have hm := List.of_mem_zip (show (z.1, z.2) ∈ _ from hz)
          rw [← ins_agree (hx _ hm.1) (hy _ hm.2)]
          exact h z hz
        · intro h z hz
          have hm := List.of_mem_zip (show (z.1, z.2) ∈ _ from hz)
          rw [ins_agree (hx _ hm.1) (hy _ hm.2)]
          exact h z hz
      unfold insideOk
      rw [key]
    · rw [beq_eq_false_iff_ne.2 hm, Bool.false_and, Bool.false_and]
  · rw [beq_eq_false_iff_ne.2 hn, Bool.false_and, Bool.false_and]
end Go.Proofs.YtidjmbmnfnnleaaDoor

