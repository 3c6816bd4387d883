/-
  MergeUnchanged returns true.
-/
import Derived.Test.YtfhkmmicdbblnaaL14
import Derived.Test.YtfhkmmicdbblnaaMergeBack
import Derived.Test.YtfhkmmicdbblnaaD7
namespace Go.Proofs.Ytfhkmmicdbblnaa
set_option linter.unusedSimpArgs false
set_option linter.unusedVariables false
open Go.RowKit

theorem few_ours (o b : ByteArray) : fewB [o, o, b] = fewB [o, b] := by
  unfold fewB
  simp only [List.all_cons, List.all_nil]
  cases decide ((lB o).length ≤ 400) <;> rfl
theorem few_theirs (o b : ByteArray) : fewB [o, b, o] = fewB [o, b] := by
  unfold fewB
  simp only [List.all_cons, List.all_nil]
  cases decide ((lB o).length ≤ 400) <;> cases decide ((lB b).length ≤ 400) <;> rfl
theorem few_both (o b : ByteArray) : fewB [o, b, b] = fewB [o, b] := by
  unfold fewB
  simp only [List.all_cons, List.all_nil]
  cases decide ((lB o).length ≤ 400) <;> cases decide ((lB b).length ≤ 400) <;> rfl
theorem dvE_of {l m : List ByteArray} (h : fewB l = fewB m) : dvE l = dvE m := by unfold dvE; rw [h]
theorem mergeT_bad {o a b : ByteArray} (h : fewB [o, a, b] = false) : mergeT o a b = [] := by unfold mergeT; rw [h]; rfl
theorem mergeT_good {o a b : ByteArray} (h : fewB [o, a, b] = true) : mergeT o a b = mrg (lB o) (lB a) (lB b) := by unfold mergeT; rw [if_pos h]

set_option maxHeartbeats 4000000 in
set_option maxRecDepth 100000 in
theorem mergeUnchanged_any (o b : ByteArray) (w : World) (ha : o.size ≤ maxLen) (hb : b.size ≤ maxLen) (hsh : w.ShapedOpen Try.prog) :
    Calls Try.prog 5 #[.string o, .string b] w fun e w' => e = .returned (.bool true) ∧ Below w.heap.size w w' := by
  clear hsh
  cases hq : longB [o, b] with
  | true =>
    have HLG := longQ hq
    clear hq ha hb
    go_enter Try.func5, Try.ntmps5
    go_wp2_with (first
      | (go_at_call 10; refine (HLG.out _ _ _ (RT.two rfl)).mono ?_; rintro e w' ⟨rfl, rfl⟩)
      | (go_at_call 11; refine (awake_any _).mono ?_; rintro e w' ⟨rfl, hbl⟩))
    go_ret
    exact ⟨rfl, go3 (below_alloc _ _) hbl⟩
  | false =>
    have HLG := longQ hq
    obtain ⟨sa, sb⟩ := long_two hq
    have HM1 := Lib.hid (fun W => merge_any o o b W (by omega) (by omega) (by omega))
    have HM2 := Lib.hid (fun W => merge_any o b o W (by omega) (by omega) (by omega))
    have HM3 := Lib.hid (fun W => merge_any o b b W (by omega) (by omega) (by omega))
    unfold RetP at HM1 HM2 HM3
    rw [dvE_of (few_ours o b)] at HM1
    rw [dvE_of (few_theirs o b)] at HM2
    rw [dvE_of (few_both o b)] at HM3
    cases hf : fewB [o, b] with
    | false =>
      rw [(dv_bad hf).2] at HM1 HM2 HM3
      clear hq ha hb hf sa sb
      generalize mergeT o o b = P1 at *
      generalize mergeT o b o = P2 at *
      generalize mergeT o b b = P3 at *
      go_enter Try.func5, Try.ntmps5
      go_wp2_with (go_at_call 10; refine (HLG.out _ _ _ (RT.two rfl)).mono ?_; rintro e w' ⟨rfl, rfl⟩)
      go_at_call 12
      refine (HM1.out _).mono ?_
      rintro e w1 ⟨A1, c1, rfl, rf, hb⟩
      have HB1 := Lib.hid (go3 (below_alloc _ _) hb)
      have HR1 := Lib.hid rf
      have k1 : P1.length ≤ c1 := by have := rf.1; rwa [List.length_map] at this
      have k2 := rf.2.1
      clear rf hb HM1 HLG
      go_wp2_with fail
      go_at_call 12
      refine (HM2.out _).mono ?_
      rintro e w2 ⟨A2, c2, rfl, rf, hb⟩
      have HB2 := Lib.hid (go3 HB1.out hb)
      have HR12 := Lib.hid (HR1.out.below hb)
      have HR2 := Lib.hid rf
      have k3 : P2.length ≤ c2 := by have := rf.1; rwa [List.length_map] at this
      have k4 := rf.2.1
      clear rf hb HM2 HR1
      go_wp2_with fail
      go_at_call 12
      refine (HM3.out _).mono ?_
      rintro e w3 ⟨A3, c3, rfl, rf, hb⟩
      have HB3 := Lib.hid (go3 HB2.out hb)
      have HR13 := Lib.hid (HR12.out.below hb)
      have HR23 := Lib.hid (HR2.out.below hb)
      have HR3 := Lib.hid rf
      have k5 : P3.length ≤ c3 := by have := rf.1; rwa [List.length_map] at this
      have k6 := rf.2.1
      clear rf hb HM3
      go_wp2_with (go_at_call 11; refine (awake_any _).mono ?_; rintro e w' ⟨rfl, hbl⟩)
      go_ret
      exact ⟨rfl, go3 HB3.out hbl⟩
    | true =>
      rw [(dv_good hf).2] at HM1 HM2 HM3
      have t1 := text_ours (lB o) (lB b)
      have t2 := text_theirs (lB o) (lB b)
      have t3 := text_both (lB o) (lB b)
      rw [← mergeT_good ((few_ours o b).trans hf)] at t1
      rw [← mergeT_good ((few_theirs o b).trans hf)] at t2
      rw [← mergeT_good ((few_both o b).trans hf)] at t3
      have hx : ∀ ps : List (Pc ByteArray), freeP ps = true ∧ ps.flatMap lineP = lB b → freeP ps = true ∧ catB (txL ps) = b := fun ps h => ⟨h.1, by unfold txL; rw [h.2]; exact cat_lB b⟩
      have HT1 := Lib.hid (hx _ t1)
      have HT2 := Lib.hid (hx _ t2)
      have HT3 := Lib.hid (hx _ t3)
      have HSB := Lib.hid sb
      have hss := str_self b
      clear hq ha hb hf sa sb t1 t2 t3 hx
      generalize mergeT o o b = P1 at *
      generalize mergeT o b o = P2 at *
      generalize mergeT o b b = P3 at *
      go_enter Try.func5, Try.ntmps5
      go_wp2_with (go_at_call 10; refine (HLG.out _ _ _ (RT.two rfl)).mono ?_; rintro e w' ⟨rfl, rfl⟩)
      go_at_call 12
      refine (HM1.out _).mono ?_
      rintro e w1 ⟨A1, c1, rfl, rf, hb⟩
      have HB1 := Lib.hid (go3 (below_alloc _ _) hb)
      have HR1 := Lib.hid rf
      have k1 : P1.length ≤ c1 := by have := rf.1; rwa [List.length_map] at this
      have k2 := rf.2.1
      clear rf hb HM1 HLG
      go_wp2_with fail
      go_at_call 12
      refine (HM2.out _).mono ?_
      rintro e w2 ⟨A2, c2, rfl, rf, hb⟩
      have HB2 := Lib.hid (go3 HB1.out hb)
      have HR12 := Lib.hid (HR1.out.below hb)
      have HR2 := Lib.hid rf
      have k3 : P2.length ≤ c2 := by have := rf.1; rwa [List.length_map] at this
      have k4 := rf.2.1
      clear rf hb HM2 HR1
      go_wp2_with fail
      go_at_call 12
      refine (HM3.out _).mono ?_
      rintro e w3 ⟨A3, c3, rfl, rf, hb⟩
      have HB3 := Lib.hid (go3 HB2.out hb)
      have HR13 := Lib.hid (HR12.out.below hb)
      have HR23 := Lib.hid (HR2.out.below hb)
      have HR3 := Lib.hid rf
      have k5 : P3.length ≤ c3 := by have := rf.1; rwa [List.length_map] at this
      have k6 := rf.2.1
      clear rf hb HM3
      go_wp2_with fail
      have HALL : Hid (∀ k, k < 3 → ∃ (A : Option Addr) (c : Nat) (ps : List (Pc ByteArray)), [Value.slice A1 P1.length c1, Value.slice A2 P2.length c2, Value.slice A3 P3.length c3][k]? = some (.slice A ps.length c) ∧ RF w3 A c 4 (ps.map pcF) ∧ freeP ps = true ∧ catB (txL ps) = b) := Lib.hid (fun k hk => by
        match k, hk with
        | 0, _ => exact ⟨A1, c1, P1, rfl, HR13.out, HT1.out⟩
        | 1, _ => exact ⟨A2, c2, P2, rfl, HR23.out, HT2.out⟩
        | 2, _ => exact ⟨A3, c3, P3, rfl, HR3.out, HT3.out⟩)
      have HBX := Lib.hid (BX.new w3 [Value.slice A1 P1.length c1, Value.slice A2 P2.length c2, Value.slice A3 P3.length c3] 24 rfl)
      go_loopw [71] (fun i wr => ∃ k : Nat, k ≤ 3 ∧ i = .int .i64 k ∧ Hid (Below (w3.alloc (.cells #[.slice A1 P1.length c1, .slice A2 P2.length c2, .slice A3 P3.length c3] 24)).heap.size (w3.alloc (.cells #[.slice A1 P1.length c1, .slice A2 P2.length c2, .slice A3 P3.length c3] 24)) wr)) (fun i _ => 3 - (intOf i).toNat)
      case atStart => exact ⟨0, by omega, rfl, Lib.hid (Below.refl _ _)⟩
      case round =>
        obtain ⟨k, hk, rfl, HB⟩ := hrel
        have HBW := Lib.hid (go3 (below_alloc _ _) HB.out)
        by_cases hlt : k < 3
        · obtain ⟨A, c, ps, hcell, hrf, hfr, htx⟩ := HALL.out k hlt
          have hc := (HBX.out.below HB.out).1 k _ hcell
          have HT := Lib.hid (fun W h => text_any A c ps W h (by rw [htx]; have := HSB.out; omega))
          unfold RetTB' at HT
          rw [tx_good hfr, htx, hfr] at HT
          have HRFN := Lib.hid hrf
          have l1 : ps.length ≤ c := by have := hrf.1; rwa [List.length_map] at this
          have l2 := hrf.2.1
          have hkI : (k : Int) < 3 := by omega
          clear hcell hrf hfr htx
          go_wp2_with (go_at_call 15; refine (HT.out _ (HRFN.out.below HBW.out)).mono ?_; rintro e w5 ⟨rfl, hb⟩; have HB5 := Lib.hid (go3 HB.out hb); clear hb)
          go_roundw
          case rel => exact ⟨k + 1, by omega, by go_num, HB5⟩
          case measure => simp [intOf]; omega
        · obtain rfl : k = 3 := by omega
          go_wp2_with (go_at_call 11; refine (awake_any _).mono ?_; rintro e w' ⟨rfl, hbl⟩)
          go_ret
          exact ⟨rfl, go3 (go3 HB3.out HBW.out) hbl⟩
end Go.Proofs.Ytfhkmmicdbblnaa

