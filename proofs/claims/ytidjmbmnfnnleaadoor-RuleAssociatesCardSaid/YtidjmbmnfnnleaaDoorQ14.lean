/-
  The walk of the reference's Within; the two are one.
-/
import Derived.Test.YtidjmbmnfnnleaaDoorQ13
namespace Go.Proofs.YtidjmbmnfnnleaaDoor
set_option linter.unusedSimpArgs false
set_option linter.unusedVariables false
open Go.RowKit
open Pm

theorem int_facts2 (n m : Nat) : (n < m ∧ decide (n < m) = true ∧ decide (m < n) = false ∧ ((n : Int) == (m : Int)) = false) ∨ (n = m ∧ decide (n < m) = false ∧ decide (m < n) = false ∧ ((n : Int) == (m : Int)) = true) ∨ (m < n ∧ decide (n < m) = false ∧ decide (m < n) = true ∧ ((n : Int) == (m : Int)) = false) := by
  rcases Nat.lt_trichotomy n m with h | h | h
  · exact .inl ⟨h, decide_eq_true h, decide_eq_false (by omega), by rw [beq_eq_false_iff_ne]; omega⟩
  · subst h
    exact .inr (.inl ⟨rfl, by simp, by simp, by simp⟩)
  · exact .inr (.inr ⟨h, decide_eq_false (by omega), decide_eq_true h, by rw [beq_eq_false_iff_ne]; omega⟩)

set_option maxHeartbeats 4000000 in
theorem rwithin_bad (A B : Option Addr) (c d : Nat) (xs ys : List ByteArray) (r t : Bool) (w : World) (h : RT w A c xs) (k : RT w B d ys)
    (hsx : ∀ x ∈ xs, x.size ≤ 9223372036854775807) (hsy : ∀ x ∈ ys, x.size ≤ 9223372036854775807) (hb : lensIn xs.length ys.length r t = false) (hn : checkP xs r = 0) (hm : checkP ys t = 0) :
    Calls Tryd.prog 71 #[.agg #[.slice A xs.length c, .bool r], .agg #[.slice B ys.length d, .bool t]] w fun e w' => e = .returned (.bool false) ∧ Below w.heap.size w w' := by
  have HX := Lib.hid h
  have HY := Lib.hid k
  have HCX := Lib.hid (fun W (h : RT W A c xs) => rcheck_any A c xs r W h hsx)
  have HCY := Lib.hid (fun W (h : RT W B d ys) => rcheck_any B d ys t W h hsy)
  rw [hn] at HCX
  rw [hm] at HCY
  have hx12 := (check_zero hn).2.1
  have hy12 := (check_zero hm).2.1
  clear h k hsx hsy hn hm
  rcases int_facts2 xs.length ys.length with ⟨f0, f1, f2, f3⟩ | ⟨f0, f1, f2, f3⟩ | ⟨f0, f1, f2, f3⟩ <;> cases r <;> cases t <;>
  first
  | (exfalso; unfold lensIn at hb; (simp at hb <;> omega))
  | (clear hb f0
     go_enter Tryd.func71, Tryd.ntmps71
     go_wp2_with (first
       | (go_at_call_of 41 (Value.agg #[.slice A xs.length c, .bool true]); refine (HCX.out _ (HX.out.below (below_alloc2 _ _ _))).mono ?_; rintro e w1 ⟨rfl, hb⟩; have P1 := Lib.hid ((PX.fst w (.slice A xs.length c) (.bool _) (.slice B ys.length d) (.bool _) _).below hb); have Q1 := Lib.hid ((PX.snd w (.slice A xs.length c) (.bool _) (.slice B ys.length d) (.bool _) _).below hb); obtain ⟨p1, p2, p3, p4, p5⟩ := P1.out; obtain ⟨q1, q2, q3, q4, q5⟩ := Q1.out; have HB1 := Lib.hid ((below_alloc2 w _ _).trans (hb.mono (below_alloc2 w _ _).size)); clear hb)
       | (go_at_call_of 41 (Value.agg #[.slice A xs.length c, .bool false]); refine (HCX.out _ (HX.out.below (below_alloc2 _ _ _))).mono ?_; rintro e w1 ⟨rfl, hb⟩; have P1 := Lib.hid ((PX.fst w (.slice A xs.length c) (.bool _) (.slice B ys.length d) (.bool _) _).below hb); have Q1 := Lib.hid ((PX.snd w (.slice A xs.length c) (.bool _) (.slice B ys.length d) (.bool _) _).below hb); obtain ⟨p1, p2, p3, p4, p5⟩ := P1.out; obtain ⟨q1, q2, q3, q4, q5⟩ := Q1.out; have HB1 := Lib.hid ((below_alloc2 w _ _).trans (hb.mono (below_alloc2 w _ _).size)); clear hb)
       | (go_at_call_of 41 (Value.agg #[.slice B ys.length d, .bool true]); refine (HCY.out _ (HY.out.below HB1.out)).mono ?_; rintro e w2 ⟨rfl, hb⟩; have P2 := Lib.hid (P1.out.below hb); have Q2 := Lib.hid (Q1.out.below hb); obtain ⟨s1, s2, s3, s4, s5⟩ := P2.out; obtain ⟨t1, t2, t3, t4, t5⟩ := Q2.out; have HB2 := Lib.hid (HB1.out.trans (hb.mono HB1.out.size)); clear hb)
       | (go_at_call_of 41 (Value.agg #[.slice B ys.length d, .bool false]); refine (HCY.out _ (HY.out.below HB1.out)).mono ?_; rintro e w2 ⟨rfl, hb⟩; have P2 := Lib.hid (P1.out.below hb); have Q2 := Lib.hid (Q1.out.below hb); obtain ⟨s1, s2, s3, s4, s5⟩ := P2.out; obtain ⟨t1, t2, t3, t4, t5⟩ := Q2.out; have HB2 := Lib.hid (HB1.out.trans (hb.mono HB1.out.size)); clear hb))
     go_ret
     exact ⟨rfl, HB2.out⟩)

set_option maxHeartbeats 4000000 in
theorem rwithin_good (A B : Option Addr) (c d : Nat) (xs ys : List ByteArray) (r t : Bool) (w : World) (h : RT w A c xs) (k : RT w B d ys)
    (hsx : ∀ x ∈ xs, x.size ≤ 9223372036854775807) (hsy : ∀ x ∈ ys, x.size ≤ 9223372036854775807) (hg : lensIn xs.length ys.length r t = true) (hn : checkP xs r = 0) (hm : checkP ys t = 0) :
    Calls Tryd.prog 71 #[.agg #[.slice A xs.length c, .bool r], .agg #[.slice B ys.length d, .bool t]] w fun e w' => e = .returned (.bool (okOf rinsB (xs.zip ys))) ∧ Below w.heap.size w w' := by
  have hle := lensIn_le hg
  have HX := Lib.hid h
  have HY := Lib.hid k
  have HSX := Lib.hid hsx
  have HSY := Lib.hid hsy
  have HCX := Lib.hid (fun W (h : RT W A c xs) => rcheck_any A c xs r W h hsx)
  have HCY := Lib.hid (fun W (h : RT W B d ys) => rcheck_any B d ys t W h hsy)
  rw [hn] at HCX
  rw [hm] at HCY
  have hx12 := (check_zero hn).2.1
  have hy12 := (check_zero hm).2.1
  have hxc := h.1
  have hyc := k.1
  have HLE := Lib.hid hle
  have HZL : Hid ((xs.zip ys).length = ys.length) := Lib.hid (by rw [List.length_zip]; omega)
  clear h k hsx hsy hn hm hle
  rcases int_facts2 xs.length ys.length with ⟨f0, f1, f2, f3⟩ | ⟨f0, f1, f2, f3⟩ | ⟨f0, f1, f2, f3⟩ <;> cases r <;> cases t <;>
  first
  | (exfalso; unfold lensIn at hg; (simp at hg <;> omega))
  | (clear hg f0
     go_enter Tryd.func71, Tryd.ntmps71
     go_wp2_with (first
       | (go_at_call_of 41 (Value.agg #[.slice A xs.length c, .bool true]); refine (HCX.out _ (HX.out.below (below_alloc2 _ _ _))).mono ?_; rintro e w1 ⟨rfl, hb⟩; have P1 := Lib.hid ((PX.fst w (.slice A xs.length c) (.bool _) (.slice B ys.length d) (.bool _) _).below hb); have Q1 := Lib.hid ((PX.snd w (.slice A xs.length c) (.bool _) (.slice B ys.length d) (.bool _) _).below hb); obtain ⟨p1, p2, p3, p4, p5⟩ := P1.out; obtain ⟨q1, q2, q3, q4, q5⟩ := Q1.out; have HB1 := Lib.hid ((below_alloc2 w _ _).trans (hb.mono (below_alloc2 w _ _).size)); clear hb)
       | (go_at_call_of 41 (Value.agg #[.slice A xs.length c, .bool false]); refine (HCX.out _ (HX.out.below (below_alloc2 _ _ _))).mono ?_; rintro e w1 ⟨rfl, hb⟩; have P1 := Lib.hid ((PX.fst w (.slice A xs.length c) (.bool _) (.slice B ys.length d) (.bool _) _).below hb); have Q1 := Lib.hid ((PX.snd w (.slice A xs.length c) (.bool _) (.slice B ys.length d) (.bool _) _).below hb); obtain ⟨p1, p2, p3, p4, p5⟩ := P1.out; obtain ⟨q1, q2, q3, q4, q5⟩ := Q1.out; have HB1 := Lib.hid ((below_alloc2 w _ _).trans (hb.mono (below_alloc2 w _ _).size)); clear hb)
       | (go_at_call_of 41 (Value.agg #[.slice B ys.length d, .bool true]); refine (HCY.out _ (HY.out.below HB1.out)).mono ?_; rintro e w2 ⟨rfl, hb⟩; have P2 := Lib.hid (P1.out.below hb); have Q2 := Lib.hid (Q1.out.below hb); obtain ⟨s1, s2, s3, s4, s5⟩ := P2.out; obtain ⟨t1, t2, t3, t4, t5⟩ := Q2.out; have HB2 := Lib.hid (HB1.out.trans (hb.mono HB1.out.size)); clear hb)
       | (go_at_call_of 41 (Value.agg #[.slice B ys.length d, .bool false]); refine (HCY.out _ (HY.out.below HB1.out)).mono ?_; rintro e w2 ⟨rfl, hb⟩; have P2 := Lib.hid (P1.out.below hb); have Q2 := Lib.hid (Q1.out.below hb); obtain ⟨s1, s2, s3, s4, s5⟩ := P2.out; obtain ⟨t1, t2, t3, t4, t5⟩ := Q2.out; have HB2 := Lib.hid (HB1.out.trans (hb.mono HB1.out.size)); clear hb))
     go_loopw [59] (fun i wr => ∃ k : Nat, k ≤ ys.length ∧ i = .int .i64 k ∧ Hid (okOf rinsB ((xs.zip ys).take k) = true) ∧ Hid (Below w.heap.size w wr) ∧ wr.cell? ⟨w.heap.size, 0, none⟩ = some (.slice A xs.length c)) (fun i _ => ys.length - (intOf i).toNat)
     case atStart => exact ⟨0, Nat.zero_le _, rfl, Lib.hid rfl, HB2, s1⟩
     case round =>
       obtain ⟨k, hk, rfl, HOK, HBL, hc0⟩ := hrel
       by_cases hlt : k < ys.length
       · obtain ⟨x, hx⟩ : ∃ x, xs[k]? = some x := ⟨_, List.getElem?_eq_getElem (by have := HLE.out; omega)⟩
         obtain ⟨y, hy⟩ : ∃ y, ys[k]? = some y := ⟨_, List.getElem?_eq_getElem hlt⟩
         obtain ⟨b1, o1, rfl, hb1, hc1⟩ := (HX.out.below HBL.out).2.2 (by have := HLE.out; omega)
         have hkx : k < xs.length := by have := HLE.out; omega
         obtain ⟨b2, o2, rfl, hb2, hc2⟩ := (HY.out.below HBL.out).2.2 (by omega)
         have hcx := hc1 k x hx
         have hcy := hc2 k y hy
         have hxz := HSX.out x (List.mem_of_getElem? hx)
         have hyz := HSY.out y (List.mem_of_getElem? hy)
         have HZ := Lib.hid (zip_get hx hy)
         clear hc1 hc2 hx hy hb1 hb2
         cases hi : rinsB x y with
         | true =>
           have HN := Lib.hid (ok_step (g := rinsB) HZ.out HOK.out hi)
           go_wp2_with (go_at_call 70; refine (rinside_any x y _ hxz hyz).mono ?_; rintro e w' ⟨rfl, rfl⟩)
           go_roundw
           case rel => exact ⟨k + 1, by omega, by go_num, HN, HBL, hc0⟩
           case measure => simp [intOf]; omega
         | false =>
           have HN := Lib.hid (ok_miss (g := rinsB) HZ.out hi)
           go_wp2_with (go_at_call 70; refine (rinside_any x y _ hxz hyz).mono ?_; rintro e w' ⟨rfl, rfl⟩)
           go_ret
           exact ⟨ret_bool HN.out.symm, HBL.out⟩
       · have HN : Hid (okOf rinsB (xs.zip ys) = true) := Lib.hid (by
           have := HOK.out
           rwa [List.take_of_length_le (by have := HZL.out; omega)] at this)
         go_wp2_with fail
         go_ret
         exact ⟨ret_bool HN.out.symm, HBL.out⟩)
end Go.Proofs.YtidjmbmnfnnleaaDoor

