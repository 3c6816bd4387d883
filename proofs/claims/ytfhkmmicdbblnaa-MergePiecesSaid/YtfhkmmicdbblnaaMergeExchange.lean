/-
  MergeExchange returns true.
-/
import Derived.Test.YtfhkmmicdbblnaaL14
import Derived.Test.YtfhkmmicdbblnaaE1
import Derived.Test.YtfhkmmicdbblnaaMergeBack
namespace Go.Proofs.Ytfhkmmicdbblnaa
set_option linter.unusedSimpArgs false
set_option linter.unusedVariables false
open Go.RowKit

theorem few_turn (o a b : ByteArray) : fewB [o, b, a] = fewB [o, a, b] := by
  unfold fewB
  simp only [List.all_cons, List.all_nil]
  cases decide ((lB o).length ≤ 400) <;> cases decide ((lB a).length ≤ 400) <;> cases decide ((lB b).length ≤ 400) <;> rfl
theorem dvE_turn (o a b : ByteArray) : dvE [o, b, a] = dvE [o, a, b] := by unfold dvE; rw [few_turn]
theorem mergeT_turn (o a b : ByteArray) : mergeT o b a = (mergeT o a b).map swapP := by
  unfold mergeT
  rw [few_turn o a b]
  split
  · exact mrg_swap _ _ _
  · rfl
theorem long_three {a b c : ByteArray} (h : longB [a, b, c] = false) : a.size ≤ 1000 ∧ b.size ≤ 1000 ∧ c.size ≤ 1000 := ⟨long_no h a (by simp), long_no h b (by simp), long_no h c (by simp)⟩

theorem below_two (w : World) (x y : Obj) : Below w.heap.size w ((w.alloc x).alloc y) := (below_alloc w x).alloc (below_alloc w x).size y
set_option maxHeartbeats 400000 in
theorem turned_any (k : Int) (w : World) : Calls Try.prog 13 #[.int .i64 k] w fun e w' => e = .returned (.int .i64 (turnK k)) ∧ w = w' := by
  have HK : Hid (turnK k = turnK k) := Lib.hid rfl
  unfold turnK at HK
  by_cases h2 : k = 2
  · subst h2
    have HN : Hid (turnK 2 = 3) := Lib.hid rfl
    go_enter Try.func13, Try.ntmps13
    go_wp2_with fail
    go_ret
    exact ⟨by rw [HN.out]; rfl, rfl⟩
  · by_cases h3 : k = 3
    · subst h3
      have HN : Hid (turnK 3 = 2) := Lib.hid rfl
      go_enter Try.func13, Try.ntmps13
      go_wp2_with fail
      go_ret
      exact ⟨by rw [HN.out]; rfl, rfl⟩
    · have HN : Hid (turnK k = k) := Lib.hid (by unfold turnK; rw [if_neg h2, if_neg h3])
      have b2 : (k == 2) = false := by simpa using h2
      have b3 : (k == 3) = false := by simpa using h3
      clear h2 h3 HK
      go_enter Try.func13, Try.ntmps13
      go_wp2_with fail
      go_ret
      exact ⟨by rw [HN.out]; rfl, rfl⟩
theorem eqT_same (A B : Option Addr) (c d : Nat) (xs : List ByteArray) (w : World) (h : RT w A c xs) (k : RT w B d xs) :
    Calls Try.prog 14 #[.slice A xs.length c, .slice B xs.length d] w fun e w' => e = .returned (.bool true) ∧ ∃ n, w' = w.drewN n :=
  (eqT_any A B c d xs xs w h k).mono fun e w' ⟨he, hw⟩ => ⟨he.trans (ret_bool (decide_eq_true rfl)), hw⟩

set_option maxHeartbeats 4000000 in
set_option maxRecDepth 100000 in
theorem mergeExchange_any (o a b : ByteArray) (w : World) (ho : o.size ≤ maxLen) (ha : a.size ≤ maxLen) (hb : b.size ≤ maxLen) (hsh : w.ShapedOpen Try.prog) :
    Calls Try.prog 3 #[.string o, .string a, .string b] w fun e w' => e = .returned (.bool true) ∧ Below w.heap.size w w' := by
  clear hsh
  cases hq : longB [o, a, b] with
  | true =>
    have HLG := longQ hq
    clear hq ho ha hb
    go_enter Try.func3, Try.ntmps3
    go_wp2_with (first
      | (go_at_call 10; refine (HLG.out _ _ _ (RT.three rfl)).mono ?_; rintro e w' ⟨rfl, rfl⟩)
      | (go_at_call 11; refine (awake_any _).mono ?_; rintro e w' ⟨rfl, hbl⟩))
    go_ret
    exact ⟨rfl, go3 (below_alloc _ _) hbl⟩
  | false =>
    have HLG := longQ hq
    obtain ⟨so, sa, sb⟩ := long_three hq
    have HM1 := Lib.hid (fun W => merge_any o a b W (by omega) (by omega) (by omega))
    have HM2 := Lib.hid (fun W => merge_any o b a W (by omega) (by omega) (by omega))
    unfold RetP at HM1 HM2
    rw [dvE_turn o a b, mergeT_turn o a b] at HM2
    simp only [List.length_map] at HM2
    have b1 : ((dvE [o, a, b] : Int) != dvE [o, a, b]) = false := by simp
    have b2 : (((mergeT o a b).length : Int) != ((mergeT o a b).length : Int)) = false := by simp
    clear hq ho ha hb so sa sb
    generalize mergeT o a b = ps at *
    generalize dvE [o, a, b] = E at *
    go_enter Try.func3, Try.ntmps3
    go_wp2_with (go_at_call 10; refine (HLG.out _ _ _ (RT.three rfl)).mono ?_; rintro e w' ⟨rfl, rfl⟩)
    go_at_call 12
    refine (HM1.out _).mono ?_
    rintro e w1 ⟨A1, c1, rfl, rf, hb⟩
    have HB1 := Lib.hid (go3 (below_alloc _ _) hb)
    have HR1 := Lib.hid rf
    have k1 : ps.length ≤ c1 := by have := rf.1; rwa [List.length_map] at this
    have k2 := rf.2.1
    clear rf hb HM1 HLG
    go_wp2_with fail
    go_at_call 12
    refine (HM2.out _).mono ?_
    rintro e w2 ⟨A2, c2, rfl, rf, hb⟩
    have HB2 := Lib.hid (go3 HB1.out hb)
    have HR12 := Lib.hid (HR1.out.below hb)
    have HR2 := Lib.hid rf
    have k3 : ps.length ≤ c2 := by have := rf.1; rwa [List.length_map, List.length_map] at this
    have k4 := rf.2.1
    clear rf hb HM2 HR1
    go_wp2_with fail
    go_loopw [46] (fun i wr => ∃ k : Nat, k ≤ ps.length ∧ i = .int .i64 k ∧ Hid (Below w2.heap.size w2 wr)) (fun i _ => ps.length - (intOf i).toNat)
    case atStart => exact ⟨0, by omega, rfl, Lib.hid (Below.refl _ _)⟩
    case round =>
      obtain ⟨k, hk, rfl, HB⟩ := hrel
      have hbs := HB.out.size
      by_cases hlt : k < ps.length
      · obtain ⟨⟨kd, O, P, Q⟩, hx⟩ : ∃ x, ps[k]? = some x := ⟨_, List.getElem?_eq_getElem hlt⟩
        have hy : (ps.map swapP)[k]? = some ⟨turnK kd, O, Q, P⟩ := by rw [List.getElem?_map, hx]; rfl
        obtain ⟨g, og, C1, n1, C2, n2, C3, n3, rfl, hb1, x0, x1, x2, x3, r1, r2, r3⟩ := (HR12.out.below HB.out).piece hx
        obtain ⟨g', og', D1, m1, D2, m2, D3, m3, rfl, hb2, y0, y1, y2, y3, s1, s2, s3⟩ := (HR2.out.below HB.out).piece hy
        simp only at x0 x1 x2 x3 r1 r2 r3 y0 y1 y2 y3 s1 s2 s3
        have HE1 := Lib.hid (fun W (h : Below wr.heap.size wr W) => eqT_same C1 D1 n1 m1 O W (r1.below h) (s1.below h))
        have HE2 := Lib.hid (fun W (h : Below wr.heap.size wr W) => eqT_same C2 D3 n2 m3 P W (r2.below h) (s3.below h))
        have HE3 := Lib.hid (fun W (h : Below wr.heap.size wr W) => eqT_same C3 D2 n3 m2 Q W (r3.below h) (s2.below h))
        have HT := Lib.hid (fun W => turned_any kd W)
        have b3 : ((turnK kd : Int) != turnK kd) = false := by simp
        generalize turnK kd = td at *
        clear hx hy r1 r2 r3 s1 s2 s3
        go_wp2_with fail
        go_quiet (first
          | (go_at_call 13; exact Calls.quiet_of_same ((HT.out _).mono fun _ _ h => ⟨h.1, h.2.symm⟩))
          | (go_at_call_of 14 (Value.slice C1 O.length n1); exact Calls.quiet_of (HE1.out _ (below_drewN (below_two _ _ _) _)))
          | (go_at_call_of 14 (Value.slice C2 P.length n2); exact Calls.quiet_of (HE2.out _ (below_drewN (below_two _ _ _) _)))
          | (go_at_call_of 14 (Value.slice C3 Q.length n3); exact Calls.quiet_of (HE3.out _ (below_drewN (below_two _ _ _) _))))
        go_wp2_with fail
        go_roundw
        case rel => exact ⟨k + 1, by omega, by go_num, Lib.hid (go3 HB.out (below_drewN (below_two _ _ _) _))⟩
        case measure => simp [intOf]; omega
      · obtain rfl : k = ps.length := by omega
        go_wp2_with (go_at_call 11; refine (awake_any _).mono ?_; rintro e w' ⟨rfl, hbl⟩)
        go_ret
        exact ⟨rfl, go3 (go3 HB2.out HB.out) hbl⟩
end Go.Proofs.Ytfhkmmicdbblnaa

