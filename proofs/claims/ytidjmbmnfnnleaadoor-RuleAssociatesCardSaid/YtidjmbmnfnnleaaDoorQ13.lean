/-
  The walks of Within on patterns.
-/
import Derived.Test.YtidjmbmnfnnleaaDoorQ12
namespace Go.Proofs.YtidjmbmnfnnleaaDoor
set_option linter.unusedSimpArgs false
set_option linter.unusedVariables false
open Go.RowKit
open Pm

theorem PX.fst (w : World) (u v a b : Value) (t : TypeId) : PX ((w.alloc (.cells #[u, v] t)).alloc (.cells #[a, b] t)) w.heap.size u v := (PX.new w u v t).below (below_alloc _ _)
theorem PX.snd (w : World) (u v a b : Value) (t : TypeId) : PX ((w.alloc (.cells #[u, v] t)).alloc (.cells #[a, b] t)) (w.heap.size + 1) a b := by
  have := PX.new (w.alloc (.cells #[u, v] t)) a b t
  simpa using this

/-- a pattern within a pattern -/
def withinOk (g : ByteArray → ByteArray → Bool) (xs ys : List ByteArray) (r t : Bool) : Bool := (checkP xs r == 0) && ((checkP ys t == 0) && insideOk g xs ys r t)

set_option maxHeartbeats 2000000 in
theorem within_any (A B : Option Addr) (c d : Nat) (xs ys : List ByteArray) (r t : Bool) (w : World) (h : RT w A c xs) (k : RT w B d ys)
    (hsx : ∀ x ∈ xs, x.size ≤ 9223372036854775807) (hsy : ∀ x ∈ ys, x.size ≤ 9223372036854775807) :
    Calls Tryd.prog 87 #[.agg #[.slice A xs.length c, .bool r], .agg #[.slice B ys.length d, .bool t]] w fun e w' => e = .returned (.bool (withinOk insB xs ys r t)) ∧ Below w.heap.size w w' := by
  have HX := Lib.hid h
  have HY := Lib.hid k
  have HCX := Lib.hid (fun W (h : RT W A c xs) => check_any A c xs r W h hsx)
  have HCY := Lib.hid (fun W (h : RT W B d ys) => check_any B d ys t W h hsy)
  have HIN := Lib.hid (fun W (h : RT W A c xs) (k : RT W B d ys) => inside_any A B c d xs ys r t W h k hsx hsy)
  have HW : Hid (withinOk insB xs ys r t = ((checkP xs r == 0) && ((checkP ys t == 0) && insideOk insB xs ys r t))) := Lib.hid rfl
  clear h k hsx hsy
  generalize insideOk insB xs ys r t = b at *
  generalize checkP xs r = n at *
  generalize checkP ys t = m at *
  rw [HW.out]
  cases hn : (n == 0) with
  | false =>
    rw [Bool.false_and]
    go_enter Tryd.func87, Tryd.ntmps87
    go_wp2_with (go_at_call_of 43 (Value.agg #[.slice A xs.length c, .bool r]); refine (HCX.out _ (HX.out.below (below_alloc2 _ _ _))).mono ?_; rintro e w1 ⟨rfl, hb⟩)
    go_ret
    exact ⟨rfl, (below_alloc2 w _ _).trans (hb.mono (below_alloc2 w _ _).size)⟩
  | true =>
    cases hm : (m == 0) with
    | false =>
      rw [Bool.false_and, Bool.and_false]
      go_enter Tryd.func87, Tryd.ntmps87
      go_wp2_with (first
        | (go_at_call_of 43 (Value.agg #[.slice A xs.length c, .bool r]); refine (HCX.out _ (HX.out.below (below_alloc2 _ _ _))).mono ?_; rintro e w1 ⟨rfl, hb⟩; have P1 := Lib.hid ((PX.fst w (.slice A xs.length c) (.bool r) (.slice B ys.length d) (.bool t) _).below hb); have Q1 := Lib.hid ((PX.snd w (.slice A xs.length c) (.bool r) (.slice B ys.length d) (.bool t) _).below hb); obtain ⟨p1, p2, p3, p4, p5⟩ := P1.out; obtain ⟨q1, q2, q3, q4, q5⟩ := Q1.out; have HB1 := Lib.hid ((below_alloc2 w _ _).trans (hb.mono (below_alloc2 w _ _).size)); clear hb)
        | (go_at_call_of 43 (Value.agg #[.slice B ys.length d, .bool t]); refine (HCY.out _ (HY.out.below HB1.out)).mono ?_; rintro e w2 ⟨rfl, hb⟩; have HB2 := Lib.hid (HB1.out.trans (hb.mono HB1.out.size)); clear hb))
      go_ret
      exact ⟨rfl, HB2.out⟩
    | true =>
      rw [Bool.true_and, Bool.true_and]
      go_enter Tryd.func87, Tryd.ntmps87
      go_wp2_with (first
        | (go_at_call_of 43 (Value.agg #[.slice A xs.length c, .bool r]); refine (HCX.out _ (HX.out.below (below_alloc2 _ _ _))).mono ?_; rintro e w1 ⟨rfl, hb⟩; have P1 := Lib.hid ((PX.fst w (.slice A xs.length c) (.bool r) (.slice B ys.length d) (.bool t) _).below hb); have Q1 := Lib.hid ((PX.snd w (.slice A xs.length c) (.bool r) (.slice B ys.length d) (.bool t) _).below hb); obtain ⟨p1, p2, p3, p4, p5⟩ := P1.out; obtain ⟨q1, q2, q3, q4, q5⟩ := Q1.out; have HB1 := Lib.hid ((below_alloc2 w _ _).trans (hb.mono (below_alloc2 w _ _).size)); clear hb)
        | (go_at_call_of 43 (Value.agg #[.slice B ys.length d, .bool t]); refine (HCY.out _ (HY.out.below HB1.out)).mono ?_; rintro e w2 ⟨rfl, hb⟩; obtain ⟨s1, s2, s3, s4, s5⟩ := P1.out.below hb; obtain ⟨t1, t2, t3, t4, t5⟩ := Q1.out.below hb; have HB2 := Lib.hid (HB1.out.trans (hb.mono HB1.out.size)); clear hb)
        | (go_at_call 101; refine (HIN.out _ (HX.out.below HB2.out) (HY.out.below HB2.out)).mono ?_; rintro e w3 ⟨rfl, hb⟩; have HB3 := Lib.hid (HB2.out.trans (hb.mono HB2.out.size)); clear hb))
      go_ret
      exact ⟨rfl, HB3.out⟩
end Go.Proofs.YtidjmbmnfnnleaaDoor

