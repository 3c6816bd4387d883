/-
  PatternFills returns true.
-/
import Derived.Test.YtofmngfmoagenaaDoorQ18
namespace Go.Proofs.YtofmngfmoagenaaDoor
set_option linter.unusedSimpArgs false
set_option linter.unusedVariables false
open Go.RowKit
open Pm

set_option maxHeartbeats 2000000 in
theorem patternFills_any (A : Option Addr) (c : Nat) (xs : List ByteArray) (r : Bool) (B : Option Addr) (d : Nat) (cs : List ByteArray) (W : World) (h : RT W A c xs) (hz : ∀ x ∈ xs, x.size ≤ maxLen) (hg : ∀ x ∈ xs, x.size ≤ reachBytes) (k : RT W B d cs) (kz : ∀ x ∈ cs, x.size ≤ maxLen) (hsh : W.ShapedOpen Tryd.prog) :
    Calls Tryd.prog 11 #[.agg #[.slice A xs.length c, .bool r], .slice B cs.length d] W fun e w' => e = .returned (.bool true) ∧ Below W.heap.size W w' := by
  unfold maxLen at hz kz
  have HI := P1.enter h (ML.of hsh) r 25
  have HC : At (fun w => RT w B d cs) (W.alloc (.cells #[.slice A xs.length c, .bool r] 25)) := ⟨kept_rt _ _ _, k.below (below_alloc _ _)⟩
  have HSX := Lib.hid (fun w (h : RT w A c xs) => small_any A c xs r w h hg)
  have hd1 := k.1
  have hd2 := k.2.1
  have HKZ := Lib.hid kz
  clear hsh h hz hg k kz
  cases hsm : smallB xs with
  | false =>
    rw [hsm] at HSX
    go_enter Tryd.func11, Tryd.ntmps11
    go_wp2_with (first
      | (go_at_call 22; refine (HSX.out _ (P1.x (HI.go (by repeat (first | exact Below.refl _ _ | apply Below.drew | apply below_drewN | apply below_al))))).mono ?_; rintro e w1 ⟨rfl, hb⟩; replace HI := HI.go2 (by repeat (first | exact Below.refl _ _ | apply Below.drew | apply below_drewN | apply below_al)) hb; clear hb)
      | (go_at_call 18; refine (pawake_any _ (P1.m (HI.go (by repeat (first | exact Below.refl _ _ | apply Below.drew | apply below_drewN | apply below_al))))).mono ?_; rintro e w3 ⟨rfl, hb⟩; replace HI := HI.go2 (by repeat (first | exact Below.refl _ _ | apply Below.drew | apply below_drewN | apply below_al)) hb; clear hb))
    go_ret
    exact ⟨rfl, P1.b (HI.go (by repeat (first | exact Below.refl _ _ | apply Below.drew | apply below_drewN | apply below_al)))⟩
  | true =>
    rw [hsm] at HSX
    have HSM := Lib.hid (small_yes hsm)
    by_cases h20 : 20 < cs.length
    · go_enter Tryd.func11, Tryd.ntmps11
      go_wp2_with (first
        | (go_at_call 22; refine (HSX.out _ (P1.x (HI.go (by repeat (first | exact Below.refl _ _ | apply Below.drew | apply below_drewN | apply below_al))))).mono ?_; rintro e w1 ⟨rfl, hb⟩; replace HI := HI.go2 (by repeat (first | exact Below.refl _ _ | apply Below.drew | apply below_drewN | apply below_al)) hb; clear hb)
        | (go_at_call 18; refine (pawake_any _ (P1.m (HI.go (by repeat (first | exact Below.refl _ _ | apply Below.drew | apply below_drewN | apply below_al))))).mono ?_; rintro e w3 ⟨rfl, hb⟩; replace HI := HI.go2 (by repeat (first | exact Below.refl _ _ | apply Below.drew | apply below_drewN | apply below_al)) hb; clear hb))
      go_ret
      exact ⟨rfl, P1.b (HI.go (by repeat (first | exact Below.refl _ _ | apply Below.drew | apply below_drewN | apply below_al)))⟩
    · go_enter Tryd.func11, Tryd.ntmps11
      go_wp2_with (go_at_call 22; refine (HSX.out _ (P1.x (HI.go (by repeat (first | exact Below.refl _ _ | apply Below.drew | apply below_drewN | apply below_al))))).mono ?_; rintro e w1 ⟨rfl, hb⟩; replace HC := HC.go2 (by repeat (first | exact Below.refl _ _ | apply Below.drew | apply below_drewN | apply below_al)) hb; replace HI := HI.go2 (by repeat (first | exact Below.refl _ _ | apply Below.drew | apply below_drewN | apply below_al)) hb; clear hb; obtain ⟨p1, p2⟩ := P1.cells HI)
      go_loop [23] (fun i => ∃ k : Nat, k ≤ cs.length ∧ i = .int .i64 k ∧ Hid (∀ x ∈ cs.take k, x.size ≤ 100)) (fun i => cs.length - (intOf i).toNat)
      case atStart => exact ⟨0, Nat.zero_le _, rfl, Lib.hid (fun x hx => by simp at hx)⟩
      case round =>
        obtain ⟨k, hk, rfl, HS⟩ := hrel
        by_cases hlt : k < cs.length
        · obtain ⟨x, hx⟩ : ∃ x, cs[k]? = some x := ⟨_, List.getElem?_eq_getElem hlt⟩
          obtain ⟨b1, o1, rfl, hb1, hc1⟩ := HC.out.2.2 (by omega)
          have hcx := hc1 k x hx
          have hxz := HKZ.out x (List.mem_of_getElem? hx)
          have HTK : Hid (cs.take (k + 1) = cs.take k ++ [x]) := Lib.hid (by rw [List.take_add_one, hx]; rfl)
          clear hc1 hx hb1
          by_cases h100 : 100 < x.size
          · go_wp2_with (go_at_call 18; refine (pawake_any _ (P1.m (HI.go (by repeat (first | exact Below.refl _ _ | apply Below.drew | apply below_drewN | apply below_al))))).mono ?_; rintro e w3 ⟨rfl, hb⟩; replace HI := HI.go2 (by repeat (first | exact Below.refl _ _ | apply Below.drew | apply below_drewN | apply below_al)) hb; clear hb)
            go_ret
            exact ⟨rfl, P1.b (HI.go (by repeat (first | exact Below.refl _ _ | apply Below.drew | apply below_drewN | apply below_al)))⟩
          · go_wp2_with fail
            go_round
            case rel => exact ⟨k + 1, by omega, by go_num, Lib.hid (by
              rw [HTK.out]
              intro y hy
              rcases List.mem_append.1 hy with hy | hy
              · exact HS.out y hy
              · obtain rfl := List.mem_singleton.1 hy
                omega)⟩
            case measure => simp [intOf]; omega
        · have HS2 : Hid (∀ x ∈ cs, x.size ≤ 5000) := Lib.hid (fun x hx => by
            have := HS.out x (by rw [List.take_of_length_le (by omega)]; exact hx)
            omega)
          have HX2 : Hid (∀ x ∈ xs, x.size ≤ 5000) := Lib.hid (fun x hx => by
            have := HSM.out.2.2 x hx
            omega)
          have HF1 := Lib.hid (fun w h k m => fill_any A B c d xs cs r w h k m HX2.out HS2.out)
          have HF2 := Lib.hid (fun w h k m => rfill_any A B c d xs cs r w h k m HX2.out HS2.out)
          have HEQ := Lib.hid (fun A' c' w h k => eq_any B A' d c' cs cs w h k)
          rw [show decide (cs = cs) = true from by simp] at HEQ
          have heq : ((fillT xs r cs).toList == (fillT xs r cs).toList) = true := by simp
          clear HS2 HX2 HS HKZ HSM
          generalize fillT xs r cs = tx at *
          generalize fillE xs r cs = te at *
          go_wp2_with (first
            | (at_builtin; refine wpList_append_texts rfl _ _ rfl w1.heap.size _ [] cs B d rfl rfl (OT.nil _ _) HC.out (by simp; omega) (Nat.le_refl _) ?_; intro v1 w2 hown hg _; have hb : Below w1.heap.size w1 w2 := (Below.refl _ _).grown hg (Nat.le_refl _) (fun k h => by cases h); replace HC := HC.go2 (by repeat (first | exact Below.refl _ _ | apply Below.drew | apply below_drewN | apply below_al)) hb; replace HI := HI.go2 (by repeat (first | exact Below.refl _ _ | apply Below.drew | apply below_drewN | apply below_al)) hb; clear hb; rw [List.nil_append] at hown; obtain ⟨A', c', rfl, hrt⟩ := hown.read; have HV : At (fun w => RT w A' c' cs) w2 := ⟨kept_rt _ _ _, hrt⟩; have hv1 := hrt.1; have hv2 := hrt.2.1; clear hown hg hrt; obtain ⟨p1, p2⟩ := P1.cells HI)
            | (go_at_call 37; refine (HF1.out _ (P1.x (HI.go (by repeat (first | exact Below.refl _ _ | apply Below.drew | apply below_drewN | apply below_al)))) (HC.go (by repeat (first | exact Below.refl _ _ | apply Below.drew | apply below_drewN | apply below_al))).out (P1.m (HI.go (by repeat (first | exact Below.refl _ _ | apply Below.drew | apply below_drewN | apply below_al))))).mono ?_; rintro e w3 ⟨rfl, hb⟩; replace HC := HC.go2 (by repeat (first | exact Below.refl _ _ | apply Below.drew | apply below_drewN | apply below_al)) hb; replace HV := HV.go2 (by repeat (first | exact Below.refl _ _ | apply Below.drew | apply below_drewN | apply below_al)) hb; replace HI := HI.go2 (by repeat (first | exact Below.refl _ _ | apply Below.drew | apply below_drewN | apply below_al)) hb; clear hb; obtain ⟨p1, p2⟩ := P1.cells HI)
            | (go_at_call 38; refine (HF2.out _ (P1.x (HI.go (by repeat (first | exact Below.refl _ _ | apply Below.drew | apply below_drewN | apply below_al)))) (HC.go (by repeat (first | exact Below.refl _ _ | apply Below.drew | apply below_drewN | apply below_al))).out (P1.m (HI.go (by repeat (first | exact Below.refl _ _ | apply Below.drew | apply below_drewN | apply below_al))))).mono ?_; rintro e w3 ⟨rfl, hb⟩; replace HC := HC.go2 (by repeat (first | exact Below.refl _ _ | apply Below.drew | apply below_drewN | apply below_al)) hb; replace HV := HV.go2 (by repeat (first | exact Below.refl _ _ | apply Below.drew | apply below_drewN | apply below_al)) hb; replace HI := HI.go2 (by repeat (first | exact Below.refl _ _ | apply Below.drew | apply below_drewN | apply below_al)) hb; clear hb; obtain ⟨p1, p2⟩ := P1.cells HI)
            | (go_at_call 25; refine (HEQ.out _ _ _ (HC.go (by repeat (first | exact Below.refl _ _ | apply Below.drew | apply below_drewN | apply below_al))).out (HV.go (by repeat (first | exact Below.refl _ _ | apply Below.drew | apply below_drewN | apply below_al))).out).mono ?_; rintro e w3 ⟨rfl, hb⟩; replace HI := HI.go2 (by repeat (first | exact Below.refl _ _ | apply Below.drew | apply below_drewN | apply below_al)) hb; clear hb)
            | (go_at_call 18; refine (pawake_any _ (P1.m (HI.go (by repeat (first | exact Below.refl _ _ | apply Below.drew | apply below_drewN | apply below_al))))).mono ?_; rintro e w3 ⟨rfl, hb⟩; replace HI := HI.go2 (by repeat (first | exact Below.refl _ _ | apply Below.drew | apply below_drewN | apply below_al)) hb; clear hb))
          go_ret
          exact ⟨rfl, P1.b (HI.go (by repeat (first | exact Below.refl _ _ | apply Below.drew | apply below_drewN | apply below_al)))⟩
end Go.Proofs.YtofmngfmoagenaaDoor

