/-
  PatternCaptures returns true.
-/
import Derived.Test.YtofmngfmoagenaaDoorQ19
namespace Go.Proofs.YtofmngfmoagenaaDoor
set_option linter.unusedSimpArgs false
set_option linter.unusedVariables false
open Go.RowKit
open Pm

set_option maxHeartbeats 4000000 in
theorem patternCaptures_any (A : Option Addr) (c : Nat) (xs : List ByteArray) (r : Bool) (s : ByteArray) (B : Option Addr) (d : Nat) (cs : List ByteArray) (W : World) (h : RT W A c xs) (hz : ∀ x ∈ xs, x.size ≤ maxLen) (hg : ∀ x ∈ xs, x.size ≤ reachBytes) (hs : s.size ≤ maxLen) (k : RT W B d cs) (kz : ∀ x ∈ cs, x.size ≤ maxLen) (hsh : W.ShapedOpen Tryd.prog) :
    Calls Tryd.prog 10 #[.agg #[.slice A xs.length c, .bool r], .string s, .slice B cs.length d] W fun e w' => e = .returned (.bool true) ∧ Below W.heap.size W w' := by
  unfold maxLen at hz kz hs
  have HI := P1.enter h (ML.of hsh) r 25
  have HC : At (fun w => RT w B d cs) (W.alloc (.cells #[.slice A xs.length c, .bool r] 25)) := ⟨kept_rt _ _ _, k.below (below_alloc _ _)⟩
  have HSX := Lib.hid (fun w (h : RT w A c xs) => small_any A c xs r w h hg)
  have hd1 := k.1
  have hd2 := k.2.1
  have HKZ := Lib.hid kz
  clear hsh h hz hg k kz
  cases hsm : smallB xs with
  | false =>
    rw [hsm] at HSX
    go_enter Tryd.func10, Tryd.ntmps10
    go_wp2_with (first
      | (go_at_call 22; refine (HSX.out _ (P1.x (HI.go (by repeat (first | exact Below.refl _ _ | apply Below.drew | apply below_drewN | apply below_al))))).mono ?_; rintro e w1 ⟨rfl, hb⟩; replace HI := HI.go2 (by repeat (first | exact Below.refl _ _ | apply Below.drew | apply below_drewN | apply below_al)) hb; clear hb)
      | (go_at_call 18; refine (pawake_any _ (P1.m (HI.go (by repeat (first | exact Below.refl _ _ | apply Below.drew | apply below_drewN | apply below_al))))).mono ?_; rintro e w3 ⟨rfl, hb⟩; replace HI := HI.go2 (by repeat (first | exact Below.refl _ _ | apply Below.drew | apply below_drewN | apply below_al)) hb; clear hb))
    go_ret
    exact ⟨rfl, P1.b (HI.go (by repeat (first | exact Below.refl _ _ | apply Below.drew | apply below_drewN | apply below_al)))⟩
  | true =>
    rw [hsm] at HSX
    have HSM := Lib.hid (small_yes hsm)
    by_cases h400 : 400 < s.size
    · go_enter Tryd.func10, Tryd.ntmps10
      go_wp2_with (first
        | (go_at_call 22; refine (HSX.out _ (P1.x (HI.go (by repeat (first | exact Below.refl _ _ | apply Below.drew | apply below_drewN | apply below_al))))).mono ?_; rintro e w1 ⟨rfl, hb⟩; replace HI := HI.go2 (by repeat (first | exact Below.refl _ _ | apply Below.drew | apply below_drewN | apply below_al)) hb; clear hb)
        | (go_at_call 18; refine (pawake_any _ (P1.m (HI.go (by repeat (first | exact Below.refl _ _ | apply Below.drew | apply below_drewN | apply below_al))))).mono ?_; rintro e w3 ⟨rfl, hb⟩; replace HI := HI.go2 (by repeat (first | exact Below.refl _ _ | apply Below.drew | apply below_drewN | apply below_al)) hb; clear hb))
      go_ret
      exact ⟨rfl, P1.b (HI.go (by repeat (first | exact Below.refl _ _ | apply Below.drew | apply below_drewN | apply below_al)))⟩
    by_cases h20 : 20 < cs.length
    · go_enter Tryd.func10, Tryd.ntmps10
      go_wp2_with (first
        | (go_at_call 22; refine (HSX.out _ (P1.x (HI.go (by repeat (first | exact Below.refl _ _ | apply Below.drew | apply below_drewN | apply below_al))))).mono ?_; rintro e w1 ⟨rfl, hb⟩; replace HI := HI.go2 (by repeat (first | exact Below.refl _ _ | apply Below.drew | apply below_drewN | apply below_al)) hb; clear hb)
        | (go_at_call 18; refine (pawake_any _ (P1.m (HI.go (by repeat (first | exact Below.refl _ _ | apply Below.drew | apply below_drewN | apply below_al))))).mono ?_; rintro e w3 ⟨rfl, hb⟩; replace HI := HI.go2 (by repeat (first | exact Below.refl _ _ | apply Below.drew | apply below_drewN | apply below_al)) hb; clear hb))
      go_ret
      exact ⟨rfl, P1.b (HI.go (by repeat (first | exact Below.refl _ _ | apply Below.drew | apply below_drewN | apply below_al)))⟩
    · go_enter Tryd.func10, Tryd.ntmps10
      go_wp2_with (go_at_call 22; refine (HSX.out _ (P1.x (HI.go (by repeat (first | exact Below.refl _ _ | apply Below.drew | apply below_drewN | apply below_al))))).mono ?_; rintro e w1 ⟨rfl, hb⟩; replace HC := HC.go2 (by repeat (first | exact Below.refl _ _ | apply Below.drew | apply below_drewN | apply below_al)) hb; replace HI := HI.go2 (by repeat (first | exact Below.refl _ _ | apply Below.drew | apply below_drewN | apply below_al)) hb; clear hb; obtain ⟨p1, p2⟩ := P1.cells HI)
      go_loop [33] (fun i => ∃ k : Nat, k ≤ cs.length ∧ i = .int .i64 k ∧ Hid (∀ x ∈ cs.take k, x.size ≤ 100)) (fun i => cs.length - (intOf i).toNat)
      case atStart => exact ⟨0, Nat.zero_le _, rfl, Lib.hid (fun x hx => by simp at hx)⟩
      case round =>
        obtain ⟨k, hk, rfl, HS⟩ := hrel
        by_cases hlt : k < cs.length
        · obtain ⟨x, hx⟩ : ∃ x, cs[k]? = some x := ⟨_, List.getElem?_eq_getElem hlt⟩
          obtain ⟨b1, o1, rfl, hb1, hc1⟩ := HC.out.2.2 (by omega)
          have hcx := hc1 k x hx
          have hxz := HKZ.out x (List.mem_of_getElem? hx)
          have HTK : Hid (cs.take (k + 1) = cs.take k ++ [x]) := Lib.hid (by rw [List.take_add_one, hx]; rfl)
          clear hc1 hx hb1
          by_cases h100 : 100 < x.size
          · go_wp2_with (go_at_call 18; refine (pawake_any _ (P1.m (HI.go (by repeat (first | exact Below.refl _ _ | apply Below.drew | apply below_drewN | apply below_al))))).mono ?_; rintro e w3 ⟨rfl, hb⟩; replace HI := HI.go2 (by repeat (first | exact Below.refl _ _ | apply Below.drew | apply below_drewN | apply below_al)) hb; clear hb)
            go_ret
            exact ⟨rfl, P1.b (HI.go (by repeat (first | exact Below.refl _ _ | apply Below.drew | apply below_drewN | apply below_al)))⟩
          · go_wp2_with fail
            go_round
            case rel => exact ⟨k + 1, by omega, by go_num, Lib.hid (by
              rw [HTK.out]
              intro y hy
              rcases List.mem_append.1 hy with hy | hy
              · exact HS.out y hy
              · obtain rfl := List.mem_singleton.1 hy
                omega)⟩
            case measure => simp [intOf]; omega
        · have hcs : ∀ x ∈ cs, x.size ≤ 100 := fun x hx => HS.out x (by rw [List.take_of_length_le (by omega)]; exact hx)
          have hx4 := HSM.out.2.2
          have HF1 := Lib.hid (fun w h k m => fill_any A B c d xs cs r w h k m (fun x hx => by have := hx4 x hx; omega) (fun x hx => by have := hcs x hx; omega))
          have HM1 := Lib.hid (fun w h m => match_any A c xs r s w h (fun x hx => by have := hx4 x hx; omega) (by omega) m)
          have HF2 : Hid (matchOk mpOk xs r s = true → ∀ B d w, RT w A c xs → RT w B d (capsB stB mpCap xs r s) → ML w → Calls Tryd.prog 37 #[.agg #[.slice A xs.length c, .bool r], .slice B (capsB stB mpCap xs r s).length d] w fun e w' => e = .returned (.tuple #[.string s, .int .i64 0]) ∧ Below w.heap.size w w') := Lib.hid (fun hm B d w h k m => by
            have := fill_any A B c d xs (capsB stB mpCap xs r s) r w h k m (fun x hx => by have := hx4 x hx; omega) (fun x hx => by have := caps_size x hx; omega)
            rw [(match_fills hm).1, (match_fills hm).2] at this
            exact this)
          have HM2 : Hid (fillE xs r cs = 0 → ∀ w, RT w A c xs → ML w → Calls Tryd.prog 23 #[.agg #[.slice A xs.length c, .bool r], .string (fillT xs r cs)] w (RetTB w cs)) := Lib.hid (fun hf w h m => by
            have := match_any A c xs r (fillT xs r cs) w h (fun x hx => by have := hx4 x hx; omega) (fillT_size hcs HSM.out.2.1 HSM.out.1) m
            rw [(fills_match hf).1, (fills_match hf).2] at this
            exact this.mono fun _ _ h => h.1 rfl)
          have HEQ := Lib.hid (fun A' c' w h k => eq_any A' B c' d cs cs w h k)
          rw [show decide (cs = cs) = true from by simp] at HEQ
          have heq : (s.toList == s.toList) = true := by simp
          have heq2 : (s.toList != s.toList) = false := by simp
          clear HS HKZ HSM hcs hx4
          generalize fillT xs r cs = tx at *
          generalize fillE xs r cs = te at *
          generalize capsB stB mpCap xs r s = pl at *
          generalize matchOk mpOk xs r s = mv at *
          by_cases hte : te = 0
          · subst hte
            have HM3 := Lib.hid (HM2.out rfl)
            clear HM2
            cases mv with
            | true =>
              have HF3 := Lib.hid (HF2.out rfl)
              clear HF2
              go_wp2_with (first
                | (go_at_call 23; ((with_reducible refine (HM1.out _ (P1.x (HI.go (by repeat (first | exact Below.refl _ _ | apply Below.drew | apply below_drewN | apply below_al)))) (P1.m (HI.go (by repeat (first | exact Below.refl _ _ | apply Below.drew | apply below_drewN | apply below_al))))).mono ?_); rintro e w3 hret); obtain ⟨A3, c3, rfl, hr3, hb⟩ := hret.1 rfl; have HR : At (fun w => RT w A3 c3 pl) w3 := ⟨kept_rt _ _ _, hr3⟩; replace HC := HC.go2 (by repeat (first | exact Below.refl _ _ | apply Below.drew | apply below_drewN | apply below_al)) hb; replace HI := HI.go2 (by repeat (first | exact Below.refl _ _ | apply Below.drew | apply below_drewN | apply below_al)) hb; clear hb; clear hret; obtain ⟨p1, p2⟩ := P1.cells HI)
                | (go_at_call 37; ((with_reducible refine (HF3.out _ _ _ (P1.x (HI.go (by repeat (first | exact Below.refl _ _ | apply Below.drew | apply below_drewN | apply below_al)))) (HR.go (by repeat (first | exact Below.refl _ _ | apply Below.drew | apply below_drewN | apply below_al))).out (P1.m (HI.go (by repeat (first | exact Below.refl _ _ | apply Below.drew | apply below_drewN | apply below_al))))).mono ?_); rintro e w4 ⟨rfl, hb⟩); replace HC := HC.go2 (by repeat (first | exact Below.refl _ _ | apply Below.drew | apply below_drewN | apply below_al)) hb; replace HI := HI.go2 (by repeat (first | exact Below.refl _ _ | apply Below.drew | apply below_drewN | apply below_al)) hb; clear hb; obtain ⟨p1, p2⟩ := P1.cells HI)
                | (go_at_call 37; ((with_reducible refine (HF1.out _ (P1.x (HI.go (by repeat (first | exact Below.refl _ _ | apply Below.drew | apply below_drewN | apply below_al)))) (HC.go (by repeat (first | exact Below.refl _ _ | apply Below.drew | apply below_drewN | apply below_al))).out (P1.m (HI.go (by repeat (first | exact Below.refl _ _ | apply Below.drew | apply below_drewN | apply below_al))))).mono ?_); rintro e w4 ⟨rfl, hb⟩); replace HC := HC.go2 (by repeat (first | exact Below.refl _ _ | apply Below.drew | apply below_drewN | apply below_al)) hb; replace HI := HI.go2 (by repeat (first | exact Below.refl _ _ | apply Below.drew | apply below_drewN | apply below_al)) hb; clear hb; obtain ⟨p1, p2⟩ := P1.cells HI)
                | (go_at_call 23; ((with_reducible refine (HM3.out _ (P1.x (HI.go (by repeat (first | exact Below.refl _ _ | apply Below.drew | apply below_drewN | apply below_al)))) (P1.m (HI.go (by repeat (first | exact Below.refl _ _ | apply Below.drew | apply below_drewN | apply below_al))))).mono ?_); rintro e w5 ⟨A5, c5, rfl, hr5, hb⟩); have HQ : At (fun w => RT w A5 c5 cs) w5 := ⟨kept_rt _ _ _, hr5⟩; replace HC := HC.go2 (by repeat (first | exact Below.refl _ _ | apply Below.drew | apply below_drewN | apply below_al)) hb; replace HI := HI.go2 (by repeat (first | exact Below.refl _ _ | apply Below.drew | apply below_drewN | apply below_al)) hb; clear hb)
                | (go_at_call 25; refine (HEQ.out _ _ _ (HQ.go (by repeat (first | exact Below.refl _ _ | apply Below.drew | apply below_drewN | apply below_al))).out (HC.go (by repeat (first | exact Below.refl _ _ | apply Below.drew | apply below_drewN | apply below_al))).out).mono ?_; rintro e w6 ⟨rfl, hb⟩; replace HI := HI.go2 (by repeat (first | exact Below.refl _ _ | apply Below.drew | apply below_drewN | apply below_al)) hb; clear hb)
                | (go_at_call 18; refine (pawake_any _ (P1.m (HI.go (by repeat (first | exact Below.refl _ _ | apply Below.drew | apply below_drewN | apply below_al))))).mono ?_; rintro e w7 ⟨rfl, hb⟩; replace HI := HI.go2 (by repeat (first | exact Below.refl _ _ | apply Below.drew | apply below_drewN | apply below_al)) hb; clear hb))
              go_ret
              exact ⟨rfl, P1.b (HI.go (by repeat (first | exact Below.refl _ _ | apply Below.drew | apply below_drewN | apply below_al)))⟩
            | false =>
              clear HF2
              go_wp2_with (first
                | (go_at_call 23; ((with_reducible refine (HM1.out _ (P1.x (HI.go (by repeat (first | exact Below.refl _ _ | apply Below.drew | apply below_drewN | apply below_al)))) (P1.m (HI.go (by repeat (first | exact Below.refl _ _ | apply Below.drew | apply below_drewN | apply below_al))))).mono ?_); rintro e w3 hret); obtain ⟨rfl, hb⟩ := hret.2 rfl; replace HC := HC.go2 (by repeat (first | exact Below.refl _ _ | apply Below.drew | apply below_drewN | apply below_al)) hb; replace HI := HI.go2 (by repeat (first | exact Below.refl _ _ | apply Below.drew | apply below_drewN | apply below_al)) hb; clear hb; clear hret; obtain ⟨p1, p2⟩ := P1.cells HI)
                | (go_at_call 37; ((with_reducible refine (HF1.out _ (P1.x (HI.go (by repeat (first | exact Below.refl _ _ | apply Below.drew | apply below_drewN | apply below_al)))) (HC.go (by repeat (first | exact Below.refl _ _ | apply Below.drew | apply below_drewN | apply below_al))).out (P1.m (HI.go (by repeat (first | exact Below.refl _ _ | apply Below.drew | apply below_drewN | apply below_al))))).mono ?_); rintro e w4 ⟨rfl, hb⟩); replace HC := HC.go2 (by repeat (first | exact Below.refl _ _ | apply Below.drew | apply below_drewN | apply below_al)) hb; replace HI := HI.go2 (by repeat (first | exact Below.refl _ _ | apply Below.drew | apply below_drewN | apply below_al)) hb; clear hb; obtain ⟨p1, p2⟩ := P1.cells HI)
                | (go_at_call 23; ((with_reducible refine (HM3.out _ (P1.x (HI.go (by repeat (first | exact Below.refl _ _ | apply Below.drew | apply below_drewN | apply below_al)))) (P1.m (HI.go (by repeat (first | exact Below.refl _ _ | apply Below.drew | apply below_drewN | apply below_al))))).mono ?_); rintro e w5 ⟨A5, c5, rfl, hr5, hb⟩); have HQ : At (fun w => RT w A5 c5 cs) w5 := ⟨kept_rt _ _ _, hr5⟩; replace HC := HC.go2 (by repeat (first | exact Below.refl _ _ | apply Below.drew | apply below_drewN | apply below_al)) hb; replace HI := HI.go2 (by repeat (first | exact Below.refl _ _ | apply Below.drew | apply below_drewN | apply below_al)) hb; clear hb)
                | (go_at_call 25; refine (HEQ.out _ _ _ (HQ.go (by repeat (first | exact Below.refl _ _ | apply Below.drew | apply below_drewN | apply below_al))).out (HC.go (by repeat (first | exact Below.refl _ _ | apply Below.drew | apply below_drewN | apply below_al))).out).mono ?_; rintro e w6 ⟨rfl, hb⟩; replace HI := HI.go2 (by repeat (first | exact Below.refl _ _ | apply Below.drew | apply below_drewN | apply below_al)) hb; clear hb)
                | (go_at_call 18; refine (pawake_any _ (P1.m (HI.go (by repeat (first | exact Below.refl _ _ | apply Below.drew | apply below_drewN | apply below_al))))).mono ?_; rintro e w7 ⟨rfl, hb⟩; replace HI := HI.go2 (by repeat (first | exact Below.refl _ _ | apply Below.drew | apply below_drewN | apply below_al)) hb; clear hb))
              go_ret
              exact ⟨rfl, P1.b (HI.go (by repeat (first | exact Below.refl _ _ | apply Below.drew | apply below_drewN | apply below_al)))⟩
          · have hteB : (te != 0) = true := by rw [bne_iff_ne]; exact hte
            clear hte HM2
            cases mv with
            | true =>
              have HF3 := Lib.hid (HF2.out rfl)
              clear HF2
              go_wp2_with (first
                | (go_at_call 23; ((with_reducible refine (HM1.out _ (P1.x (HI.go (by repeat (first | exact Below.refl _ _ | apply Below.drew | apply below_drewN | apply below_al)))) (P1.m (HI.go (by repeat (first | exact Below.refl _ _ | apply Below.drew | apply below_drewN | apply below_al))))).mono ?_); rintro e w3 hret); obtain ⟨A3, c3, rfl, hr3, hb⟩ := hret.1 rfl; have HR : At (fun w => RT w A3 c3 pl) w3 := ⟨kept_rt _ _ _, hr3⟩; replace HC := HC.go2 (by repeat (first | exact Below.refl _ _ | apply Below.drew | apply below_drewN | apply below_al)) hb; replace HI := HI.go2 (by repeat (first | exact Below.refl _ _ | apply Below.drew | apply below_drewN | apply below_al)) hb; clear hb; clear hret; obtain ⟨p1, p2⟩ := P1.cells HI)
                | (go_at_call 37; ((with_reducible refine (HF3.out _ _ _ (P1.x (HI.go (by repeat (first | exact Below.refl _ _ | apply Below.drew | apply below_drewN | apply below_al)))) (HR.go (by repeat (first | exact Below.refl _ _ | apply Below.drew | apply below_drewN | apply below_al))).out (P1.m (HI.go (by repeat (first | exact Below.refl _ _ | apply Below.drew | apply below_drewN | apply below_al))))).mono ?_); rintro e w4 ⟨rfl, hb⟩); replace HC := HC.go2 (by repeat (first | exact Below.refl _ _ | apply Below.drew | apply below_drewN | apply below_al)) hb; replace HI := HI.go2 (by repeat (first | exact Below.refl _ _ | apply Below.drew | apply below_drewN | apply below_al)) hb; clear hb; obtain ⟨p1, p2⟩ := P1.cells HI)
                | (go_at_call 37; ((with_reducible refine (HF1.out _ (P1.x (HI.go (by repeat (first | exact Below.refl _ _ | apply Below.drew | apply below_drewN | apply below_al)))) (HC.go (by repeat (first | exact Below.refl _ _ | apply Below.drew | apply below_drewN | apply below_al))).out (P1.m (HI.go (by repeat (first | exact Below.refl _ _ | apply Below.drew | apply below_drewN | apply below_al))))).mono ?_); rintro e w4 ⟨rfl, hb⟩); replace HC := HC.go2 (by repeat (first | exact Below.refl _ _ | apply Below.drew | apply below_drewN | apply below_al)) hb; replace HI := HI.go2 (by repeat (first | exact Below.refl _ _ | apply Below.drew | apply below_drewN | apply below_al)) hb; clear hb; obtain ⟨p1, p2⟩ := P1.cells HI)
                | (go_at_call 18; refine (pawake_any _ (P1.m (HI.go (by repeat (first | exact Below.refl _ _ | apply Below.drew | apply below_drewN | apply below_al))))).mono ?_; rintro e w7 ⟨rfl, hb⟩; replace HI := HI.go2 (by repeat (first | exact Below.refl _ _ | apply Below.drew | apply below_drewN | apply below_al)) hb; clear hb))
              go_ret
              exact ⟨rfl, P1.b (HI.go (by repeat (first | exact Below.refl _ _ | apply Below.drew | apply below_drewN | apply below_al)))⟩
            | false =>
              clear HF2
              go_wp2_with (first
                | (go_at_call 23; ((with_reducible refine (HM1.out _ (P1.x (HI.go (by repeat (first | exact Below.refl _ _ | apply Below.drew | apply below_drewN | apply below_al)))) (P1.m (HI.go (by repeat (first | exact Below.refl _ _ | apply Below.drew | apply below_drewN | apply below_al))))).mono ?_); rintro e w3 hret); obtain ⟨rfl, hb⟩ := hret.2 rfl; replace HC := HC.go2 (by repeat (first | exact Below.refl _ _ | apply Below.drew | apply below_drewN | apply below_al)) hb; replace HI := HI.go2 (by repeat (first | exact Below.refl _ _ | apply Below.drew | apply below_drewN | apply below_al)) hb; clear hb; clear hret; obtain ⟨p1, p2⟩ := P1.cells HI)
                | (go_at_call 37; ((with_reducible refine (HF1.out _ (P1.x (HI.go (by repeat (first | exact Below.refl _ _ | apply Below.drew | apply below_drewN | apply below_al)))) (HC.go (by repeat (first | exact Below.refl _ _ | apply Below.drew | apply below_drewN | apply below_al))).out (P1.m (HI.go (by repeat (first | exact Below.refl _ _ | apply Below.drew | apply below_drewN | apply below_al))))).mono ?_); rintro e w4 ⟨rfl, hb⟩); replace HC := HC.go2 (by repeat (first | exact Below.refl _ _ | apply Below.drew | apply below_drewN | apply below_al)) hb; replace HI := HI.go2 (by repeat (first | exact Below.refl _ _ | apply Below.drew | apply below_drewN | apply below_al)) hb; clear hb; obtain ⟨p1, p2⟩ := P1.cells HI)
                | (go_at_call 18; refine (pawake_any _ (P1.m (HI.go (by repeat (first | exact Below.refl _ _ | apply Below.drew | apply below_drewN | apply below_al))))).mono ?_; rintro e w7 ⟨rfl, hb⟩; replace HI := HI.go2 (by repeat (first | exact Below.refl _ _ | apply Below.drew | apply below_drewN | apply below_al)) hb; clear hb))
              go_ret
              exact ⟨rfl, P1.b (HI.go (by repeat (first | exact Below.refl _ _ | apply Below.drew | apply below_drewN | apply below_al)))⟩
end Go.Proofs.YtofmngfmoagenaaDoor

