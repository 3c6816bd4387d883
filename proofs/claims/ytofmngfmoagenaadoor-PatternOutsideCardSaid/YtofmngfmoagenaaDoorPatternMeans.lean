/-
  PatternMeans returns true.
-/
import Derived.Test.YtofmngfmoagenaaDoorQ21
import Derived.Test.YtofmngfmoagenaaDoorQ23
namespace Go.Proofs.YtofmngfmoagenaaDoor
set_option linter.unusedSimpArgs false
set_option linter.unusedVariables false
open Go.RowKit
open Pm

/-- Match, by its truth value alone -/
theorem match_bool (A : Option Addr) (c : Nat) (xs : List ByteArray) (r : Bool) (s : ByteArray) (w : World) (h : RT w A c xs) (hsz : ∀ x ∈ xs, x.size ≤ 9223372036854775807) (hs : s.size ≤ 5000) (hm : ML w) :
    Calls Tryd.prog 23 #[.agg #[.slice A xs.length c, .bool r], .string s] w fun e w' => ∃ v, e = .returned (.tuple #[v, .bool (matchOk mpOk xs r s)]) ∧ Below w.heap.size w w' :=
  (match_any A c xs r s w h hsz hs hm).mono fun e w' h => by
    cases hv : matchOk mpOk xs r s with
    | true =>
      obtain ⟨B, d, e, _, hb⟩ := h.1 hv
      exact ⟨_, e, hb⟩
    | false =>
      obtain ⟨e, hb⟩ := h.2 hv
      exact ⟨_, e, hb⟩
theorem RetMO.one {w w' : World} {zs : List ByteArray} {q ok : Bool} {e : Ending} (h : RetMO w zs q ok e w') : RetM w (if ok = true then zs else []) (if ok = true then q else false) ok e w' := by
  cases ok with
  | true => exact h.1 rfl
  | false => exact h.2 rfl

set_option maxHeartbeats 4000000 in
theorem patternMeans_any (A : Option Addr) (c : Nat) (xs : List ByteArray) (r : Bool) (B : Option Addr) (d : Nat) (ys : List ByteArray) (t : Bool) (s : ByteArray) (W : World) (h : RT W A c xs) (hz : ∀ x ∈ xs, x.size ≤ maxLen) (hg : ∀ x ∈ xs, x.size ≤ reachBytes) (k : RT W B d ys) (kz : ∀ x ∈ ys, x.size ≤ maxLen) (kg : ∀ x ∈ ys, x.size ≤ reachBytes) (hs : s.size ≤ maxLen) (hsh : W.ShapedOpen Tryd.prog) :
    Calls Tryd.prog 15 #[.agg #[.slice A xs.length c, .bool r], .agg #[.slice B ys.length d, .bool t], .string s] W fun e w' => e = .returned (.bool true) ∧ Below W.heap.size W w' := by
  unfold maxLen at hz kz hs
  have HI := P2.enter h k (ML.of hsh) r t 25
  have HSX := Lib.hid (fun w (h : RT w A c xs) => small_any A c xs r w h hg)
  have HSY := Lib.hid (fun w (h : RT w B d ys) => small_any B d ys t w h kg)
  have hx1 := h.1
  have hx2 := h.2.1
  have hy1 := k.1
  have hy2 := k.2.1
  have HZX := Lib.hid hz
  have HZY := Lib.hid kz
  clear hsh h hz hg k kz kg
  cases hsx : smallB xs with
  | false =>
    rw [hsx] at HSX
    go_enter Tryd.func15, Tryd.ntmps15
    go_wp2_with (first
      | (go_at_call_of 22 (Value.agg #[.slice A xs.length c, .bool r]); refine (HSX.out _ (P2.x (HI.go (by repeat (first | exact Below.refl _ _ | apply Below.drew | apply below_drewN | apply below_al))))).mono ?_; rintro e w1 ⟨rfl, hb⟩; replace HI := HI.go2 (by repeat (first | exact Below.refl _ _ | apply Below.drew | apply below_drewN | apply below_al)) hb; clear hb; obtain ⟨p1, p2, q1, q2⟩ := P2.cells HI)
      | (go_at_call_of 22 (Value.agg #[.slice B ys.length d, .bool t]); refine (HSY.out _ (P2.y (HI.go (by repeat (first | exact Below.refl _ _ | apply Below.drew | apply below_drewN | apply below_al))))).mono ?_; rintro e w2 ⟨rfl, hb⟩; replace HI := HI.go2 (by repeat (first | exact Below.refl _ _ | apply Below.drew | apply below_drewN | apply below_al)) hb; clear hb; obtain ⟨p1, p2, q1, q2⟩ := P2.cells HI)
      | (go_at_call 18; refine (pawake_any _ (P2.m (HI.go (by repeat (first | exact Below.refl _ _ | apply Below.drew | apply below_drewN | apply below_al))))).mono ?_; rintro e w3 ⟨rfl, hb⟩; replace HI := HI.go2 (by repeat (first | exact Below.refl _ _ | apply Below.drew | apply below_drewN | apply below_al)) hb; clear hb)
      )
    go_ret
    exact ⟨rfl, P2.b (HI.go (by repeat (first | exact Below.refl _ _ | apply Below.drew | apply below_drewN | apply below_al)))⟩
  | true =>
    rw [hsx] at HSX
    cases hsy : smallB ys with
    | false =>
      rw [hsy] at HSY
      go_enter Tryd.func15, Tryd.ntmps15
      go_wp2_with (first
        | (go_at_call_of 22 (Value.agg #[.slice A xs.length c, .bool r]); refine (HSX.out _ (P2.x (HI.go (by repeat (first | exact Below.refl _ _ | apply Below.drew | apply below_drewN | apply below_al))))).mono ?_; rintro e w1 ⟨rfl, hb⟩; replace HI := HI.go2 (by repeat (first | exact Below.refl _ _ | apply Below.drew | apply below_drewN | apply below_al)) hb; clear hb; obtain ⟨p1, p2, q1, q2⟩ := P2.cells HI)
        | (go_at_call_of 22 (Value.agg #[.slice B ys.length d, .bool t]); refine (HSY.out _ (P2.y (HI.go (by repeat (first | exact Below.refl _ _ | apply Below.drew | apply below_drewN | apply below_al))))).mono ?_; rintro e w2 ⟨rfl, hb⟩; replace HI := HI.go2 (by repeat (first | exact Below.refl _ _ | apply Below.drew | apply below_drewN | apply below_al)) hb; clear hb; obtain ⟨p1, p2, q1, q2⟩ := P2.cells HI)
        | (go_at_call 18; refine (pawake_any _ (P2.m (HI.go (by repeat (first | exact Below.refl _ _ | apply Below.drew | apply below_drewN | apply below_al))))).mono ?_; rintro e w3 ⟨rfl, hb⟩; replace HI := HI.go2 (by repeat (first | exact Below.refl _ _ | apply Below.drew | apply below_drewN | apply below_al)) hb; clear hb)
        )
      go_ret
      exact ⟨rfl, P2.b (HI.go (by repeat (first | exact Below.refl _ _ | apply Below.drew | apply below_drewN | apply below_al)))⟩
    | true =>
      rw [hsy] at HSY
      by_cases h400 : 400 < s.size
      · go_enter Tryd.func15, Tryd.ntmps15
        go_wp2_with (first
          | (go_at_call_of 22 (Value.agg #[.slice A xs.length c, .bool r]); refine (HSX.out _ (P2.x (HI.go (by repeat (first | exact Below.refl _ _ | apply Below.drew | apply below_drewN | apply below_al))))).mono ?_; rintro e w1 ⟨rfl, hb⟩; replace HI := HI.go2 (by repeat (first | exact Below.refl _ _ | apply Below.drew | apply below_drewN | apply below_al)) hb; clear hb; obtain ⟨p1, p2, q1, q2⟩ := P2.cells HI)
          | (go_at_call_of 22 (Value.agg #[.slice B ys.length d, .bool t]); refine (HSY.out _ (P2.y (HI.go (by repeat (first | exact Below.refl _ _ | apply Below.drew | apply below_drewN | apply below_al))))).mono ?_; rintro e w2 ⟨rfl, hb⟩; replace HI := HI.go2 (by repeat (first | exact Below.refl _ _ | apply Below.drew | apply below_drewN | apply below_al)) hb; clear hb; obtain ⟨p1, p2, q1, q2⟩ := P2.cells HI)
          | (go_at_call 18; refine (pawake_any _ (P2.m (HI.go (by repeat (first | exact Below.refl _ _ | apply Below.drew | apply below_drewN | apply below_al))))).mono ?_; rintro e w3 ⟨rfl, hb⟩; replace HI := HI.go2 (by repeat (first | exact Below.refl _ _ | apply Below.drew | apply below_drewN | apply below_al)) hb; clear hb)
          )
        go_ret
        exact ⟨rfl, P2.b (HI.go (by repeat (first | exact Below.refl _ _ | apply Below.drew | apply below_drewN | apply below_al)))⟩
      · have HMA := Lib.hid (fun w h m => match_bool A c xs r s w h HZX.out (by omega) m)
        have HMB := Lib.hid (fun w h m => match_bool B d ys t s w h HZY.out (by omega) m)
        have HME := Lib.hid (fun w h k => (meet_any A B c d xs ys r t w h k HZX.out HZY.out).mono fun _ _ h => RetMO.one h)
        have HWI := Lib.hid (fun w h k => within_any A B c d xs ys r t w h k HZX.out HZY.out)
        have hmm := meet_means xs ys r t s
        have hwm := fun h k => within_means (xs := xs) (ys := ys) (r := r) (t := t) (s := s) h k
        have HMC : Hid (meetOk xs ys r t = true → ∀ C n w, RT w C n (meetL xs ys) → ML w → Calls Tryd.prog 23 #[.agg #[.slice C (meetL xs ys).length n, .bool (r && t)], .string s] w fun e w' => ∃ v, e = .returned (.tuple #[v, .bool (matchOk mpOk xs r s && matchOk mpOk ys t s)]) ∧ Below w.heap.size w w') := Lib.hid (fun hm C n w h m => by
          have := match_bool C n (meetL xs ys) (r && t) s w h (fun x hx => by
            rcases meetL_mem hm hx with hx | hx
            · exact HZX.out x hx
            · exact HZY.out x hx) (by omega) m
          rw [(hmm.1 hm).2] at this
          exact this)
        have hno := hmm.2
        clear hmm
        generalize matchOk mpOk xs r s = ma at *
        generalize matchOk mpOk ys t s = mb at *
        generalize withinOk insB xs ys r t = wi at *
        generalize meetL xs ys = ml at *
        generalize (r && t) = rt at *
        generalize meetOk xs ys r t = mo at *
        have hall : (mo = true ∨ (ma && mb) = false) ∧ (wi = true → ma = true → mb = true) := ⟨by cases mo; exact .inr (hno rfl); exact .inl rfl, hwm⟩
        have HALL := Lib.hid hall
        clear hno hwm hall
        cases mo with
        | true =>
          have HMD := Lib.hid (HMC.out rfl)
          clear HMC
          simp only [if_true] at HME
          have HMO : Hid True := Lib.hid trivial
          cases ma <;> cases mb <;> cases wi <;>
          first
          | (exfalso; have hh := HALL.out; revert hh; decide)
          | (clear HALL
             go_enter Tryd.func15, Tryd.ntmps15
             go_wp2_with (first
               | (go_at_call_of 22 (Value.agg #[.slice A xs.length c, .bool r]); refine (HSX.out _ (P2.x (HI.go (by repeat (first | exact Below.refl _ _ | apply Below.drew | apply below_drewN | apply below_al))))).mono ?_; rintro e w1 ⟨rfl, hb⟩; replace HI := HI.go2 (by repeat (first | exact Below.refl _ _ | apply Below.drew | apply below_drewN | apply below_al)) hb; clear hb; obtain ⟨p1, p2, q1, q2⟩ := P2.cells HI)
               | (go_at_call_of 22 (Value.agg #[.slice B ys.length d, .bool t]); refine (HSY.out _ (P2.y (HI.go (by repeat (first | exact Below.refl _ _ | apply Below.drew | apply below_drewN | apply below_al))))).mono ?_; rintro e w2 ⟨rfl, hb⟩; replace HI := HI.go2 (by repeat (first | exact Below.refl _ _ | apply Below.drew | apply below_drewN | apply below_al)) hb; clear hb; obtain ⟨p1, p2, q1, q2⟩ := P2.cells HI)
               | (go_at_call 18; refine (pawake_any _ (P2.m (HI.go (by repeat (first | exact Below.refl _ _ | apply Below.drew | apply below_drewN | apply below_al))))).mono ?_; rintro e w3 ⟨rfl, hb⟩; replace HI := HI.go2 (by repeat (first | exact Below.refl _ _ | apply Below.drew | apply below_drewN | apply below_al)) hb; clear hb)
               | (go_at_call_of 23 (Value.agg #[.slice A xs.length c, .bool r]); ((with_reducible refine (HMA.out _ (P2.x (HI.go (by repeat (first | exact Below.refl _ _ | apply Below.drew | apply below_drewN | apply below_al)))) (P2.m (HI.go (by repeat (first | exact Below.refl _ _ | apply Below.drew | apply below_drewN | apply below_al))))).mono ?_); rintro e w4 ⟨va, rfl, hb⟩); replace HI := HI.go2 (by repeat (first | exact Below.refl _ _ | apply Below.drew | apply below_drewN | apply below_al)) hb; clear hb; obtain ⟨p1, p2, q1, q2⟩ := P2.cells HI)
               | (go_at_call_of 23 (Value.agg #[.slice B ys.length d, .bool t]); ((with_reducible refine (HMB.out _ (P2.y (HI.go (by repeat (first | exact Below.refl _ _ | apply Below.drew | apply below_drewN | apply below_al)))) (P2.m (HI.go (by repeat (first | exact Below.refl _ _ | apply Below.drew | apply below_drewN | apply below_al))))).mono ?_); rintro e w5 ⟨vb, rfl, hb⟩); replace HI := HI.go2 (by repeat (first | exact Below.refl _ _ | apply Below.drew | apply below_drewN | apply below_al)) hb; clear hb; obtain ⟨p1, p2, q1, q2⟩ := P2.cells HI)
               | (go_at_call 41; refine (HME.out _ (P2.x (HI.go (by repeat (first | exact Below.refl _ _ | apply Below.drew | apply below_drewN | apply below_al)))) (P2.y (HI.go (by repeat (first | exact Below.refl _ _ | apply Below.drew | apply below_drewN | apply below_al))))).mono ?_; rintro e w6 ⟨C, n, rfl, hr, hb⟩; have HR : At (fun w => RT w C n ml) w6 := ⟨kept_rt _ _ _, hr⟩; have hr1 := hr.1; have hr2 := hr.2.1; clear hr; replace HI := HI.go2 (by repeat (first | exact Below.refl _ _ | apply Below.drew | apply below_drewN | apply below_al)) hb; clear hb; obtain ⟨p1, p2, q1, q2⟩ := P2.cells HI)
               | (go_at_call 23; refine (HMD.out _ _ _ (HR.go (by repeat (first | exact Below.refl _ _ | apply Below.drew | apply below_drewN | apply below_al))).out (P2.m (HI.go (by repeat (first | exact Below.refl _ _ | apply Below.drew | apply below_drewN | apply below_al))))).mono ?_; rintro e w7 ⟨vc, rfl, hb⟩; replace HI := HI.go2 (by repeat (first | exact Below.refl _ _ | apply Below.drew | apply below_drewN | apply below_al)) hb; clear hb; obtain ⟨p1, p2, q1, q2⟩ := P2.cells HI)
               | (go_at_call 32; refine (HWI.out _ (P2.x (HI.go (by repeat (first | exact Below.refl _ _ | apply Below.drew | apply below_drewN | apply below_al)))) (P2.y (HI.go (by repeat (first | exact Below.refl _ _ | apply Below.drew | apply below_drewN | apply below_al))))).mono ?_; rintro e w8 ⟨rfl, hb⟩; replace HI := HI.go2 (by repeat (first | exact Below.refl _ _ | apply Below.drew | apply below_drewN | apply below_al)) hb; clear hb))
             go_ret
             exact ⟨rfl, P2.b (HI.go (by repeat (first | exact Below.refl _ _ | apply Below.drew | apply below_drewN | apply below_al)))⟩)
        | false =>
          clear HMC
          simp only [Bool.false_eq_true, if_false] at HME
          cases ma <;> cases mb <;> cases wi <;>
          first
          | (exfalso; have hh := HALL.out; revert hh; decide)
          | (clear HALL
             go_enter Tryd.func15, Tryd.ntmps15
             go_wp2_with (first
               | (go_at_call_of 22 (Value.agg #[.slice A xs.length c, .bool r]); refine (HSX.out _ (P2.x (HI.go (by repeat (first | exact Below.refl _ _ | apply Below.drew | apply below_drewN | apply below_al))))).mono ?_; rintro e w1 ⟨rfl, hb⟩; replace HI := HI.go2 (by repeat (first | exact Below.refl _ _ | apply Below.drew | apply below_drewN | apply below_al)) hb; clear hb; obtain ⟨p1, p2, q1, q2⟩ := P2.cells HI)
               | (go_at_call_of 22 (Value.agg #[.slice B ys.length d, .bool t]); refine (HSY.out _ (P2.y (HI.go (by repeat (first | exact Below.refl _ _ | apply Below.drew | apply below_drewN | apply below_al))))).mono ?_; rintro e w2 ⟨rfl, hb⟩; replace HI := HI.go2 (by repeat (first | exact Below.refl _ _ | apply Below.drew | apply below_drewN | apply below_al)) hb; clear hb; obtain ⟨p1, p2, q1, q2⟩ := P2.cells HI)
               | (go_at_call 18; refine (pawake_any _ (P2.m (HI.go (by repeat (first | exact Below.refl _ _ | apply Below.drew | apply below_drewN | apply below_al))))).mono ?_; rintro e w3 ⟨rfl, hb⟩; replace HI := HI.go2 (by repeat (first | exact Below.refl _ _ | apply Below.drew | apply below_drewN | apply below_al)) hb; clear hb)
               | (go_at_call_of 23 (Value.agg #[.slice A xs.length c, .bool r]); ((with_reducible refine (HMA.out _ (P2.x (HI.go (by repeat (first | exact Below.refl _ _ | apply Below.drew | apply below_drewN | apply below_al)))) (P2.m (HI.go (by repeat (first | exact Below.refl _ _ | apply Below.drew | apply below_drewN | apply below_al))))).mono ?_); rintro e w4 ⟨va, rfl, hb⟩); replace HI := HI.go2 (by repeat (first | exact Below.refl _ _ | apply Below.drew | apply below_drewN | apply below_al)) hb; clear hb; obtain ⟨p1, p2, q1, q2⟩ := P2.cells HI)
               | (go_at_call_of 23 (Value.agg #[.slice B ys.length d, .bool t]); ((with_reducible refine (HMB.out _ (P2.y (HI.go (by repeat (first | exact Below.refl _ _ | apply Below.drew | apply below_drewN | apply below_al)))) (P2.m (HI.go (by repeat (first | exact Below.refl _ _ | apply Below.drew | apply below_drewN | apply below_al))))).mono ?_); rintro e w5 ⟨vb, rfl, hb⟩); replace HI := HI.go2 (by repeat (first | exact Below.refl _ _ | apply Below.drew | apply below_drewN | apply below_al)) hb; clear hb; obtain ⟨p1, p2, q1, q2⟩ := P2.cells HI)
               | (go_at_call 41; refine (HME.out _ (P2.x (HI.go (by repeat (first | exact Below.refl _ _ | apply Below.drew | apply below_drewN | apply below_al)))) (P2.y (HI.go (by repeat (first | exact Below.refl _ _ | apply Below.drew | apply below_drewN | apply below_al))))).mono ?_; rintro e w6 ⟨C, n, rfl, hr, hb⟩; clear hr; replace HI := HI.go2 (by repeat (first | exact Below.refl _ _ | apply Below.drew | apply below_drewN | apply below_al)) hb; clear hb; obtain ⟨p1, p2, q1, q2⟩ := P2.cells HI; have hz1 := HI.out.1.2.2.2.2; have hz2 := HI.out.2.1.2.2.2.2)
               | (go_at_call 32; refine (HWI.out _ (P2.x (HI.go (by repeat (first | exact Below.refl _ _ | apply Below.drew | apply below_drewN | apply below_al)))) (P2.y (HI.go (by repeat (first | exact Below.refl _ _ | apply Below.drew | apply below_drewN | apply below_al))))).mono ?_; rintro e w8 ⟨rfl, hb⟩; replace HI := HI.go2 (by repeat (first | exact Below.refl _ _ | apply Below.drew | apply below_drewN | apply below_al)) hb; clear hb))
             go_ret
             exact ⟨rfl, P2.b (HI.go (by repeat (first | exact Below.refl _ _ | apply Below.drew | apply below_drewN | apply below_al)))⟩)
end Go.Proofs.YtofmngfmoagenaaDoor

