/-
  PatternOutside returns true.
-/
import Derived.Test.YtofmngfmoagenaaDoorQ24
import Derived.Test.YtofmngfmoagenaaDoorPatternMeans
namespace Go.Proofs.YtofmngfmoagenaaDoor
set_option linter.unusedSimpArgs false
set_option linter.unusedVariables false
open Go.RowKit
open Pm

def inB (xs ys : List ByteArray) (t : Bool) (lo k : Nat) : Bool := (List.range (k - lo)).all fun j => matchOk mpOk ys t (witP xs ys (lo + j))
theorem inB_lo (xs ys : List ByteArray) (t : Bool) (lo : Nat) : inB xs ys t lo lo = true := by unfold inB; rw [Nat.sub_self]; rfl
theorem inB_step {xs ys : List ByteArray} {t : Bool} {lo k : Nat} (h : lo ≤ k) : inB xs ys t lo (k + 1) = (inB xs ys t lo k && matchOk mpOk ys t (witP xs ys k)) := by
  unfold inB
  rw [show k + 1 - lo = (k - lo) + 1 by omega, List.range_succ, List.all_append]
  simp only [List.all_cons, List.all_nil, Bool.and_true]
  rw [show lo + (k - lo) = k by omega]
theorem inB_end {xs ys : List ByteArray} {r t : Bool} (hx : checkP xs r = 0) (hy : checkP ys t = 0) : inB xs ys t (witLo r) (witHi r + 1) = withinOk insB xs ys r t := by
  rw [Bool.eq_iff_iff, wit_within hx hy]
  unfold inB
  rw [List.all_eq_true]
  have hw : witLo r ≤ witHi r := by unfold witLo witHi; cases r <;> decide
  constructor
  · intro h n h1 h2
    have := h (n - witLo r) (List.mem_range.2 (by omega))
    rwa [show witLo r + (n - witLo r) = n by omega] at this
  · intro h j hj
    have := List.mem_range.1 hj
    exact h _ (by omega) (by omega)

set_option maxHeartbeats 4000000 in
theorem patternOutside_any (A : Option Addr) (c : Nat) (xs : List ByteArray) (r : Bool) (B : Option Addr) (d : Nat) (ys : List ByteArray) (t : Bool) (W : World) (h : RT W A c xs) (hz : ∀ x ∈ xs, x.size ≤ maxLen) (hg : ∀ x ∈ xs, x.size ≤ reachBytes) (k : RT W B d ys) (kz : ∀ x ∈ ys, x.size ≤ maxLen) (kg : ∀ x ∈ ys, x.size ≤ reachBytes) (hsh : W.ShapedOpen Tryd.prog) :
    Calls Tryd.prog 7 #[.agg #[.slice A xs.length c, .bool r], .agg #[.slice B ys.length d, .bool t]] W fun e w' => e = .returned (.bool true) ∧ Below W.heap.size W w' := by
  unfold maxLen at hz kz
  have HI := P2.enter h k (ML.of hsh) r t 25
  have HSX := Lib.hid (fun w (h : RT w A c xs) => small_any A c xs r w h hg)
  have HSY := Lib.hid (fun w (h : RT w B d ys) => small_any B d ys t w h kg)
  have HCX := Lib.hid (fun W (h : RT W A c xs) => check_any A c xs r W h hz)
  have HCY := Lib.hid (fun W (h : RT W B d ys) => check_any B d ys t W h kz)
  have hx1 := h.1
  have hx2 := h.2.1
  have hy1 := k.1
  have hy2 := k.2.1
  have HZX := Lib.hid hz
  have HZY := Lib.hid kz
  clear hsh h hz hg k kz kg
  cases hsx : smallB xs with
  | false =>
    rw [hsx] at HSX
    go_enter Tryd.func7, Tryd.ntmps7
    go_wp2_with (first
      | (go_at_call_of 22 (Value.agg #[.slice A xs.length c, .bool r]); refine (HSX.out _ (P2.x (HI.go (by repeat (first | exact Below.refl _ _ | apply Below.drew | apply below_drewN | apply below_al))))).mono ?_; rintro e w1 ⟨rfl, hb⟩; replace HI := HI.go2 (by repeat (first | exact Below.refl _ _ | apply Below.drew | apply below_drewN | apply below_al)) hb; clear hb; obtain ⟨p1, p2, q1, q2⟩ := P2.cells HI)
      | (go_at_call_of 22 (Value.agg #[.slice B ys.length d, .bool t]); refine (HSY.out _ (P2.y (HI.go (by repeat (first | exact Below.refl _ _ | apply Below.drew | apply below_drewN | apply below_al))))).mono ?_; rintro e w2 ⟨rfl, hb⟩; replace HI := HI.go2 (by repeat (first | exact Below.refl _ _ | apply Below.drew | apply below_drewN | apply below_al)) hb; clear hb; obtain ⟨p1, p2, q1, q2⟩ := P2.cells HI)
      | (go_at_call_of 29 (Value.agg #[.slice A xs.length c, .bool r]); ((with_reducible refine (HCX.out _ (P2.x (HI.go (by repeat (first | exact Below.refl _ _ | apply Below.drew | apply below_drewN | apply below_al))))).mono ?_); rintro e w1 ⟨rfl, hb⟩); replace HI := HI.go2 (by repeat (first | exact Below.refl _ _ | apply Below.drew | apply below_drewN | apply below_al)) hb; clear hb; obtain ⟨p1, p2, q1, q2⟩ := P2.cells HI)
      | (go_at_call_of 29 (Value.agg #[.slice B ys.length d, .bool t]); ((with_reducible refine (HCY.out _ (P2.y (HI.go (by repeat (first | exact Below.refl _ _ | apply Below.drew | apply below_drewN | apply below_al))))).mono ?_); rintro e w1 ⟨rfl, hb⟩); replace HI := HI.go2 (by repeat (first | exact Below.refl _ _ | apply Below.drew | apply below_drewN | apply below_al)) hb; clear hb; obtain ⟨p1, p2, q1, q2⟩ := P2.cells HI)
      | (go_at_call 18; refine (pawake_any _ (P2.m (HI.go (by repeat (first | exact Below.refl _ _ | apply Below.drew | apply below_drewN | apply below_al))))).mono ?_; rintro e w3 ⟨rfl, hb⟩; replace HI := HI.go2 (by repeat (first | exact Below.refl _ _ | apply Below.drew | apply below_drewN | apply below_al)) hb; clear hb)
      )
    go_ret
    exact ⟨rfl, P2.b (HI.go (by repeat (first | exact Below.refl _ _ | apply Below.drew | apply below_drewN | apply below_al)))⟩
  | true =>
    rw [hsx] at HSX
    cases hsy : smallB ys with
    | false =>
      rw [hsy] at HSY
      go_enter Tryd.func7, Tryd.ntmps7
      go_wp2_with (first
        | (go_at_call_of 22 (Value.agg #[.slice A xs.length c, .bool r]); refine (HSX.out _ (P2.x (HI.go (by repeat (first | exact Below.refl _ _ | apply Below.drew | apply below_drewN | apply below_al))))).mono ?_; rintro e w1 ⟨rfl, hb⟩; replace HI := HI.go2 (by repeat (first | exact Below.refl _ _ | apply Below.drew | apply below_drewN | apply below_al)) hb; clear hb; obtain ⟨p1, p2, q1, q2⟩ := P2.cells HI)
        | (go_at_call_of 22 (Value.agg #[.slice B ys.length d, .bool t]); refine (HSY.out _ (P2.y (HI.go (by repeat (first | exact Below.refl _ _ | apply Below.drew | apply below_drewN | apply below_al))))).mono ?_; rintro e w2 ⟨rfl, hb⟩; replace HI := HI.go2 (by repeat (first | exact Below.refl _ _ | apply Below.drew | apply below_drewN | apply below_al)) hb; clear hb; obtain ⟨p1, p2, q1, q2⟩ := P2.cells HI)
        | (go_at_call_of 29 (Value.agg #[.slice A xs.length c, .bool r]); ((with_reducible refine (HCX.out _ (P2.x (HI.go (by repeat (first | exact Below.refl _ _ | apply Below.drew | apply below_drewN | apply below_al))))).mono ?_); rintro e w1 ⟨rfl, hb⟩); replace HI := HI.go2 (by repeat (first | exact Below.refl _ _ | apply Below.drew | apply below_drewN | apply below_al)) hb; clear hb; obtain ⟨p1, p2, q1, q2⟩ := P2.cells HI)
        | (go_at_call_of 29 (Value.agg #[.slice B ys.length d, .bool t]); ((with_reducible refine (HCY.out _ (P2.y (HI.go (by repeat (first | exact Below.refl _ _ | apply Below.drew | apply below_drewN | apply below_al))))).mono ?_); rintro e w1 ⟨rfl, hb⟩); replace HI := HI.go2 (by repeat (first | exact Below.refl _ _ | apply Below.drew | apply below_drewN | apply below_al)) hb; clear hb; obtain ⟨p1, p2, q1, q2⟩ := P2.cells HI)
        | (go_at_call 18; refine (pawake_any _ (P2.m (HI.go (by repeat (first | exact Below.refl _ _ | apply Below.drew | apply below_drewN | apply below_al))))).mono ?_; rintro e w3 ⟨rfl, hb⟩; replace HI := HI.go2 (by repeat (first | exact Below.refl _ _ | apply Below.drew | apply below_drewN | apply below_al)) hb; clear hb)
        )
      go_ret
      exact ⟨rfl, P2.b (HI.go (by repeat (first | exact Below.refl _ _ | apply Below.drew | apply below_drewN | apply below_al)))⟩
    | true =>
      rw [hsy] at HSY
      by_cases hn : checkP xs r = 0
      · by_cases hm : checkP ys t = 0
        · have sx := small_yes hsx
          have sy := small_yes hsy
          have HEND := Lib.hid (inB_end hn hm)
          have HWT : Hid (∀ n : Nat, n ≤ 13 → ∀ w, RT w A c xs → RT w B d ys → ML w → Calls Tryd.prog 31 #[.agg #[.slice A xs.length c, .bool r], .agg #[.slice B ys.length d, .bool t], .int .i64 (n : Nat)] w fun e w' => e = .returned (.string (witP xs ys n)) ∧ Below w.heap.size w w') :=
            Lib.hid (fun n hn w h k m => witness_any A B c d xs ys r t n w h k m sx.2.2 sy.2.2 sx.1 sy.1 hn)
          have hwh : witHi r ≤ 13 := by unfold witHi; cases r <;> decide
          have HMX : Hid (∀ n : Nat, witLo r ≤ n → n ≤ witHi r → ∀ w, RT w A c xs → ML w → Calls Tryd.prog 23 #[.agg #[.slice A xs.length c, .bool r], .string (witP xs ys n)] w fun e w' => ∃ v, e = .returned (.tuple #[v, .bool true]) ∧ Below w.heap.size w w') :=
            Lib.hid (fun n h1 h2 w h m => by
              have := match_bool A c xs r (witP xs ys n) w h HZX.out (witP_size sx.2.1 sx.1 (by omega)) m
              rw [wit_own hn (wit_in h1 h2)] at this
              exact this)
          have HMY : Hid (∀ n : Nat, n ≤ 13 → ∀ w, RT w B d ys → ML w → Calls Tryd.prog 23 #[.agg #[.slice B ys.length d, .bool t], .string (witP xs ys n)] w fun e w' => ∃ v, e = .returned (.tuple #[v, .bool (matchOk mpOk ys t (witP xs ys n))]) ∧ Below w.heap.size w w') :=
            Lib.hid (fun n h1 w h m => match_bool B d ys t (witP xs ys n) w h HZY.out (witP_size sx.2.1 sx.1 h1) m)
          have HWI := Lib.hid (fun w h k => within_any A B c d xs ys r t w h k HZX.out HZY.out)
          rw [hn] at HCX
          rw [hm] at HCY
          clear hsx hsy sx sy hwh hn hm HZX HZY
          cases r with
          | true =>
            have e1 : witLo true = 1 := rfl
            have e2 : witHi true = 13 := rfl
            rw [e1, e2] at HEND HMX
            clear e1 e2
            go_enter Tryd.func7, Tryd.ntmps7
            go_wp2_with (first
              | (go_at_call_of 22 (Value.agg #[.slice A xs.length c, .bool true]); refine (HSX.out _ (P2.x (HI.go (by repeat (first | exact Below.refl _ _ | apply Below.drew | apply below_drewN | apply below_al))))).mono ?_; rintro e w1 ⟨rfl, hb⟩; replace HI := HI.go2 (by repeat (first | exact Below.refl _ _ | apply Below.drew | apply below_drewN | apply below_al)) hb; clear hb; obtain ⟨p1, p2, q1, q2⟩ := P2.cells HI)
              | (go_at_call_of 22 (Value.agg #[.slice B ys.length d, .bool t]); refine (HSY.out _ (P2.y (HI.go (by repeat (first | exact Below.refl _ _ | apply Below.drew | apply below_drewN | apply below_al))))).mono ?_; rintro e w2 ⟨rfl, hb⟩; replace HI := HI.go2 (by repeat (first | exact Below.refl _ _ | apply Below.drew | apply below_drewN | apply below_al)) hb; clear hb; obtain ⟨p1, p2, q1, q2⟩ := P2.cells HI)
              | (go_at_call_of 29 (Value.agg #[.slice A xs.length c, .bool true]); ((with_reducible refine (HCX.out _ (P2.x (HI.go (by repeat (first | exact Below.refl _ _ | apply Below.drew | apply below_drewN | apply below_al))))).mono ?_); rintro e w1 ⟨rfl, hb⟩); replace HI := HI.go2 (by repeat (first | exact Below.refl _ _ | apply Below.drew | apply below_drewN | apply below_al)) hb; clear hb; obtain ⟨p1, p2, q1, q2⟩ := P2.cells HI)
              | (go_at_call_of 29 (Value.agg #[.slice B ys.length d, .bool t]); ((with_reducible refine (HCY.out _ (P2.y (HI.go (by repeat (first | exact Below.refl _ _ | apply Below.drew | apply below_drewN | apply below_al))))).mono ?_); rintro e w1 ⟨rfl, hb⟩); replace HI := HI.go2 (by repeat (first | exact Below.refl _ _ | apply Below.drew | apply below_drewN | apply below_al)) hb; clear hb; obtain ⟨p1, p2, q1, q2⟩ := P2.cells HI)
              | (go_at_call 18; refine (pawake_any _ (P2.m (HI.go (by repeat (first | exact Below.refl _ _ | apply Below.drew | apply below_drewN | apply below_al))))).mono ?_; rintro e w3 ⟨rfl, hb⟩; replace HI := HI.go2 (by repeat (first | exact Below.refl _ _ | apply Below.drew | apply below_drewN | apply below_al)) hb; clear hb)
              )
            go_loopw [7, 8] (fun iv nv wr => ∃ k : Nat, 1 ≤ k ∧ k ≤ 13 + 1 ∧ nv = .int .i64 k ∧ iv = .bool (inB xs ys t 1 k) ∧ At (P2 W A c xs true B d ys t) wr) (fun _ nv _ => 13 + 1 - (intOf nv).toNat)
            case atStart => exact ⟨1, Nat.le_refl _, by omega, rfl, by rw [inB_lo], HI⟩
            case round =>
              obtain ⟨k, hk1, hk2, rfl, rfl, HI⟩ := hrel
              obtain ⟨p1, p2, q1, q2⟩ := P2.cells HI
              by_cases hlt : k ≤ 13
              · have HST := Lib.hid (inB_step (xs := xs) (ys := ys) (t := t) hk1)
                have HW := Lib.hid (HWT.out k (by omega))
                have HMA := Lib.hid (HMX.out k hk1 hlt)
                have HMB := Lib.hid (HMY.out k (by omega))
                skip
                generalize inB xs ys t 1 k = ib at *
                generalize matchOk mpOk ys t (witP xs ys k) = mb at *
                generalize witP xs ys k = wp at *
                cases ib <;> cases mb <;>
                · go_wp2_with (first
                    | (go_at_call 31; refine (HW.out _ (P2.x (HI.go (by repeat (first | exact Below.refl _ _ | apply Below.drew | apply below_drewN | apply below_al)))) (P2.y (HI.go (by repeat (first | exact Below.refl _ _ | apply Below.drew | apply below_drewN | apply below_al)))) (P2.m (HI.go (by repeat (first | exact Below.refl _ _ | apply Below.drew | apply below_drewN | apply below_al))))).mono ?_; rintro e w4 ⟨rfl, hb⟩; replace HI := HI.go2 (by repeat (first | exact Below.refl _ _ | apply Below.drew | apply below_drewN | apply below_al)) hb; clear hb; obtain ⟨p1, p2, q1, q2⟩ := P2.cells HI)
                    | (go_at_call_of 23 (Value.agg #[.slice A xs.length c, .bool true]); ((with_reducible refine (HMA.out _ (P2.x (HI.go (by repeat (first | exact Below.refl _ _ | apply Below.drew | apply below_drewN | apply below_al)))) (P2.m (HI.go (by repeat (first | exact Below.refl _ _ | apply Below.drew | apply below_drewN | apply below_al))))).mono ?_); rintro e w5 ⟨va, rfl, hb⟩); replace HI := HI.go2 (by repeat (first | exact Below.refl _ _ | apply Below.drew | apply below_drewN | apply below_al)) hb; clear hb; obtain ⟨p1, p2, q1, q2⟩ := P2.cells HI)
                    | (go_at_call_of 23 (Value.agg #[.slice B ys.length d, .bool t]); ((with_reducible refine (HMB.out _ (P2.y (HI.go (by repeat (first | exact Below.refl _ _ | apply Below.drew | apply below_drewN | apply below_al)))) (P2.m (HI.go (by repeat (first | exact Below.refl _ _ | apply Below.drew | apply below_drewN | apply below_al))))).mono ?_); rintro e w6 ⟨vb, rfl, hb⟩); replace HI := HI.go2 (by repeat (first | exact Below.refl _ _ | apply Below.drew | apply below_drewN | apply below_al)) hb; clear hb; obtain ⟨p1, p2, q1, q2⟩ := P2.cells HI))
                  go_roundw
                  case rel => exact ⟨k + 1, by omega, by omega, by go_num, by rw [HST.out]; rfl, HI⟩
                  case measure => simp [intOf] <;> omega
              · obtain rfl : k = 13 + 1 := by omega
                have HE := HEND.out
                rw [HE]
                clear HE
                generalize withinOk insB xs ys true t = wi at *
                go_wp2_with (first
                  | (go_at_call 32; refine (HWI.out _ (P2.x (HI.go (by repeat (first | exact Below.refl _ _ | apply Below.drew | apply below_drewN | apply below_al)))) (P2.y (HI.go (by repeat (first | exact Below.refl _ _ | apply Below.drew | apply below_drewN | apply below_al))))).mono ?_; rintro e w8 ⟨rfl, hb⟩; replace HI := HI.go2 (by repeat (first | exact Below.refl _ _ | apply Below.drew | apply below_drewN | apply below_al)) hb; clear hb)
                  | (go_at_call 18; refine (pawake_any _ (P2.m (HI.go (by repeat (first | exact Below.refl _ _ | apply Below.drew | apply below_drewN | apply below_al))))).mono ?_; rintro e w3 ⟨rfl, hb⟩; replace HI := HI.go2 (by repeat (first | exact Below.refl _ _ | apply Below.drew | apply below_drewN | apply below_al)) hb; clear hb))
                go_ret
                exact ⟨rfl, P2.b (HI.go (by repeat (first | exact Below.refl _ _ | apply Below.drew | apply below_drewN | apply below_al)))⟩
          | false =>
            have e1 : witLo false = 0 := rfl
            have e2 : witHi false = 0 := rfl
            rw [e1, e2] at HEND HMX
            clear e1 e2
            go_enter Tryd.func7, Tryd.ntmps7
            go_wp2_with (first
              | (go_at_call_of 22 (Value.agg #[.slice A xs.length c, .bool false]); refine (HSX.out _ (P2.x (HI.go (by repeat (first | exact Below.refl _ _ | apply Below.drew | apply below_drewN | apply below_al))))).mono ?_; rintro e w1 ⟨rfl, hb⟩; replace HI := HI.go2 (by repeat (first | exact Below.refl _ _ | apply Below.drew | apply below_drewN | apply below_al)) hb; clear hb; obtain ⟨p1, p2, q1, q2⟩ := P2.cells HI)
              | (go_at_call_of 22 (Value.agg #[.slice B ys.length d, .bool t]); refine (HSY.out _ (P2.y (HI.go (by repeat (first | exact Below.refl _ _ | apply Below.drew | apply below_drewN | apply below_al))))).mono ?_; rintro e w2 ⟨rfl, hb⟩; replace HI := HI.go2 (by repeat (first | exact Below.refl _ _ | apply Below.drew | apply below_drewN | apply below_al)) hb; clear hb; obtain ⟨p1, p2, q1, q2⟩ := P2.cells HI)
              | (go_at_call_of 29 (Value.agg #[.slice A xs.length c, .bool false]); ((with_reducible refine (HCX.out _ (P2.x (HI.go (by repeat (first | exact Below.refl _ _ | apply Below.drew | apply below_drewN | apply below_al))))).mono ?_); rintro e w1 ⟨rfl, hb⟩); replace HI := HI.go2 (by repeat (first | exact Below.refl _ _ | apply Below.drew | apply below_drewN | apply below_al)) hb; clear hb; obtain ⟨p1, p2, q1, q2⟩ := P2.cells HI)
              | (go_at_call_of 29 (Value.agg #[.slice B ys.length d, .bool t]); ((with_reducible refine (HCY.out _ (P2.y (HI.go (by repeat (first | exact Below.refl _ _ | apply Below.drew | apply below_drewN | apply below_al))))).mono ?_); rintro e w1 ⟨rfl, hb⟩); replace HI := HI.go2 (by repeat (first | exact Below.refl _ _ | apply Below.drew | apply below_drewN | apply below_al)) hb; clear hb; obtain ⟨p1, p2, q1, q2⟩ := P2.cells HI)
              | (go_at_call 18; refine (pawake_any _ (P2.m (HI.go (by repeat (first | exact Below.refl _ _ | apply Below.drew | apply below_drewN | apply below_al))))).mono ?_; rintro e w3 ⟨rfl, hb⟩; replace HI := HI.go2 (by repeat (first | exact Below.refl _ _ | apply Below.drew | apply below_drewN | apply below_al)) hb; clear hb)
              )
            go_loopw [7, 8] (fun iv nv wr => ∃ k : Nat, 0 ≤ k ∧ k ≤ 0 + 1 ∧ nv = .int .i64 k ∧ iv = .bool (inB xs ys t 0 k) ∧ At (P2 W A c xs false B d ys t) wr) (fun _ nv _ => 0 + 1 - (intOf nv).toNat)
            case atStart => exact ⟨0, Nat.le_refl _, by omega, rfl, by rw [inB_lo], HI⟩
            case round =>
              obtain ⟨k, hk1, hk2, rfl, rfl, HI⟩ := hrel
              obtain ⟨p1, p2, q1, q2⟩ := P2.cells HI
              by_cases hlt : k ≤ 0
              · have HST := Lib.hid (inB_step (xs := xs) (ys := ys) (t := t) hk1)
                have HW := Lib.hid (HWT.out k (by omega))
                have HMA := Lib.hid (HMX.out k hk1 hlt)
                have HMB := Lib.hid (HMY.out k (by omega))
                (obtain rfl : k = 0 := by omega); clear hlt hk1 hk2; have HW := Lib.hid (fun w h k m => HW.out w h k m)
                generalize inB xs ys t 0 0 = ib at *
                generalize matchOk mpOk ys t (witP xs ys 0) = mb at *
                generalize witP xs ys 0 = wp at *
                cases ib <;> cases mb <;>
                · go_wp2_with (first
                    | (go_at_call 31; refine (HW.out _ (P2.x (HI.go (by repeat (first | exact Below.refl _ _ | apply Below.drew | apply below_drewN | apply below_al)))) (P2.y (HI.go (by repeat (first | exact Below.refl _ _ | apply Below.drew | apply below_drewN | apply below_al)))) (P2.m (HI.go (by repeat (first | exact Below.refl _ _ | apply Below.drew | apply below_drewN | apply below_al))))).mono ?_; rintro e w4 ⟨rfl, hb⟩; replace HI := HI.go2 (by repeat (first | exact Below.refl _ _ | apply Below.drew | apply below_drewN | apply below_al)) hb; clear hb; obtain ⟨p1, p2, q1, q2⟩ := P2.cells HI)
                    | (go_at_call_of 23 (Value.agg #[.slice A xs.length c, .bool false]); ((with_reducible refine (HMA.out _ (P2.x (HI.go (by repeat (first | exact Below.refl _ _ | apply Below.drew | apply below_drewN | apply below_al)))) (P2.m (HI.go (by repeat (first | exact Below.refl _ _ | apply Below.drew | apply below_drewN | apply below_al))))).mono ?_); rintro e w5 ⟨va, rfl, hb⟩); replace HI := HI.go2 (by repeat (first | exact Below.refl _ _ | apply Below.drew | apply below_drewN | apply below_al)) hb; clear hb; obtain ⟨p1, p2, q1, q2⟩ := P2.cells HI)
                    | (go_at_call_of 23 (Value.agg #[.slice B ys.length d, .bool t]); ((with_reducible refine (HMB.out _ (P2.y (HI.go (by repeat (first | exact Below.refl _ _ | apply Below.drew | apply below_drewN | apply below_al)))) (P2.m (HI.go (by repeat (first | exact Below.refl _ _ | apply Below.drew | apply below_drewN | apply below_al))))).mono ?_); rintro e w6 ⟨vb, rfl, hb⟩); replace HI := HI.go2 (by repeat (first | exact Below.refl _ _ | apply Below.drew | apply below_drewN | apply below_al)) hb; clear hb; obtain ⟨p1, p2, q1, q2⟩ := P2.cells HI))
                  go_roundw
                  case rel => exact ⟨0 + 1, by omega, by omega, by go_num, by rw [HST.out]; rfl, HI⟩
                  case measure => simp [intOf] <;> omega
              · obtain rfl : k = 0 + 1 := by omega
                have HE := HEND.out
                rw [HE]
                clear HE
                generalize withinOk insB xs ys false t = wi at *
                go_wp2_with (first
                  | (go_at_call 32; refine (HWI.out _ (P2.x (HI.go (by repeat (first | exact Below.refl _ _ | apply Below.drew | apply below_drewN | apply below_al)))) (P2.y (HI.go (by repeat (first | exact Below.refl _ _ | apply Below.drew | apply below_drewN | apply below_al))))).mono ?_; rintro e w8 ⟨rfl, hb⟩; replace HI := HI.go2 (by repeat (first | exact Below.refl _ _ | apply Below.drew | apply below_drewN | apply below_al)) hb; clear hb)
                  | (go_at_call 18; refine (pawake_any _ (P2.m (HI.go (by repeat (first | exact Below.refl _ _ | apply Below.drew | apply below_drewN | apply below_al))))).mono ?_; rintro e w3 ⟨rfl, hb⟩; replace HI := HI.go2 (by repeat (first | exact Below.refl _ _ | apply Below.drew | apply below_drewN | apply below_al)) hb; clear hb))
                go_ret
                exact ⟨rfl, P2.b (HI.go (by repeat (first | exact Below.refl _ _ | apply Below.drew | apply below_drewN | apply below_al)))⟩
        · have hmB : (checkP ys t != 0) = true := by rw [bne_iff_ne]; exact hm
          rw [hn] at HCX
          clear hn hm hsx hsy HZX HZY
          generalize checkP ys t = m at *
          go_enter Tryd.func7, Tryd.ntmps7
          go_wp2_with (first
            | (go_at_call_of 22 (Value.agg #[.slice A xs.length c, .bool r]); refine (HSX.out _ (P2.x (HI.go (by repeat (first | exact Below.refl _ _ | apply Below.drew | apply below_drewN | apply below_al))))).mono ?_; rintro e w1 ⟨rfl, hb⟩; replace HI := HI.go2 (by repeat (first | exact Below.refl _ _ | apply Below.drew | apply below_drewN | apply below_al)) hb; clear hb; obtain ⟨p1, p2, q1, q2⟩ := P2.cells HI)
            | (go_at_call_of 22 (Value.agg #[.slice B ys.length d, .bool t]); refine (HSY.out _ (P2.y (HI.go (by repeat (first | exact Below.refl _ _ | apply Below.drew | apply below_drewN | apply below_al))))).mono ?_; rintro e w2 ⟨rfl, hb⟩; replace HI := HI.go2 (by repeat (first | exact Below.refl _ _ | apply Below.drew | apply below_drewN | apply below_al)) hb; clear hb; obtain ⟨p1, p2, q1, q2⟩ := P2.cells HI)
            | (go_at_call_of 29 (Value.agg #[.slice A xs.length c, .bool r]); ((with_reducible refine (HCX.out _ (P2.x (HI.go (by repeat (first | exact Below.refl _ _ | apply Below.drew | apply below_drewN | apply below_al))))).mono ?_); rintro e w1 ⟨rfl, hb⟩); replace HI := HI.go2 (by repeat (first | exact Below.refl _ _ | apply Below.drew | apply below_drewN | apply below_al)) hb; clear hb; obtain ⟨p1, p2, q1, q2⟩ := P2.cells HI)
            | (go_at_call_of 29 (Value.agg #[.slice B ys.length d, .bool t]); ((with_reducible refine (HCY.out _ (P2.y (HI.go (by repeat (first | exact Below.refl _ _ | apply Below.drew | apply below_drewN | apply below_al))))).mono ?_); rintro e w1 ⟨rfl, hb⟩); replace HI := HI.go2 (by repeat (first | exact Below.refl _ _ | apply Below.drew | apply below_drewN | apply below_al)) hb; clear hb; obtain ⟨p1, p2, q1, q2⟩ := P2.cells HI)
            | (go_at_call 18; refine (pawake_any _ (P2.m (HI.go (by repeat (first | exact Below.refl _ _ | apply Below.drew | apply below_drewN | apply below_al))))).mono ?_; rintro e w3 ⟨rfl, hb⟩; replace HI := HI.go2 (by repeat (first | exact Below.refl _ _ | apply Below.drew | apply below_drewN | apply below_al)) hb; clear hb)
            )
          go_ret
          exact ⟨rfl, P2.b (HI.go (by repeat (first | exact Below.refl _ _ | apply Below.drew | apply below_drewN | apply below_al)))⟩
      · have hnB : (checkP xs r != 0) = true := by rw [bne_iff_ne]; exact hn
        clear hn hsx hsy HZX HZY
        generalize checkP xs r = n at *
        go_enter Tryd.func7, Tryd.ntmps7
        go_wp2_with (first
          | (go_at_call_of 22 (Value.agg #[.slice A xs.length c, .bool r]); refine (HSX.out _ (P2.x (HI.go (by repeat (first | exact Below.refl _ _ | apply Below.drew | apply below_drewN | apply below_al))))).mono ?_; rintro e w1 ⟨rfl, hb⟩; replace HI := HI.go2 (by repeat (first | exact Below.refl _ _ | apply Below.drew | apply below_drewN | apply below_al)) hb; clear hb; obtain ⟨p1, p2, q1, q2⟩ := P2.cells HI)
          | (go_at_call_of 22 (Value.agg #[.slice B ys.length d, .bool t]); refine (HSY.out _ (P2.y (HI.go (by repeat (first | exact Below.refl _ _ | apply Below.drew | apply below_drewN | apply below_al))))).mono ?_; rintro e w2 ⟨rfl, hb⟩; replace HI := HI.go2 (by repeat (first | exact Below.refl _ _ | apply Below.drew | apply below_drewN | apply below_al)) hb; clear hb; obtain ⟨p1, p2, q1, q2⟩ := P2.cells HI)
          | (go_at_call_of 29 (Value.agg #[.slice A xs.length c, .bool r]); ((with_reducible refine (HCX.out _ (P2.x (HI.go (by repeat (first | exact Below.refl _ _ | apply Below.drew | apply below_drewN | apply below_al))))).mono ?_); rintro e w1 ⟨rfl, hb⟩); replace HI := HI.go2 (by repeat (first | exact Below.refl _ _ | apply Below.drew | apply below_drewN | apply below_al)) hb; clear hb; obtain ⟨p1, p2, q1, q2⟩ := P2.cells HI)
          | (go_at_call_of 29 (Value.agg #[.slice B ys.length d, .bool t]); ((with_reducible refine (HCY.out _ (P2.y (HI.go (by repeat (first | exact Below.refl _ _ | apply Below.drew | apply below_drewN | apply below_al))))).mono ?_); rintro e w1 ⟨rfl, hb⟩); replace HI := HI.go2 (by repeat (first | exact Below.refl _ _ | apply Below.drew | apply below_drewN | apply below_al)) hb; clear hb; obtain ⟨p1, p2, q1, q2⟩ := P2.cells HI)
          | (go_at_call 18; refine (pawake_any _ (P2.m (HI.go (by repeat (first | exact Below.refl _ _ | apply Below.drew | apply below_drewN | apply below_al))))).mono ?_; rintro e w3 ⟨rfl, hb⟩; replace HI := HI.go2 (by repeat (first | exact Below.refl _ _ | apply Below.drew | apply below_drewN | apply below_al)) hb; clear hb)
          )
        go_ret
        exact ⟨rfl, P2.b (HI.go (by repeat (first | exact Below.refl _ _ | apply Below.drew | apply below_drewN | apply below_al)))⟩
end Go.Proofs.YtofmngfmoagenaaDoor

