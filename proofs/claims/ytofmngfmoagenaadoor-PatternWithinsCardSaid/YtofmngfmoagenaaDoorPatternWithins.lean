/-
  PatternWithins returns true.
-/
import Derived.Test.YtofmngfmoagenaaDoorQ15
import Derived.Test.YtofmngfmoagenaaDoorK
import Derived.Deep.RegionHeld3
import Derived.Deep.DrawnRows
namespace Go.Proofs.YtofmngfmoagenaaDoor
set_option linter.unusedSimpArgs false
set_option linter.unusedVariables false
open Go.RowKit
open Pm
attribute [local go_sem ↓] Go.wp_at_zero Go.wp_at_succ

set_option maxHeartbeats 4000000 in
set_option maxRecDepth 100000 in
theorem patternWithins_any (A : Option Addr) (c : Nat) (xs : List ByteArray) (r : Bool) (B : Option Addr) (d : Nat) (ys : List ByteArray) (t : Bool) (W : World) (h : RT W A c xs) (hz : ∀ x ∈ xs, x.size ≤ maxLen) (hg : ∀ x ∈ xs, x.size ≤ reachBytes) (k : RT W B d ys) (kz : ∀ x ∈ ys, x.size ≤ maxLen) (kg : ∀ x ∈ ys, x.size ≤ reachBytes) (hsh : W.ShapedOpen Tryd.prog) :
    Calls Tryd.prog 8 #[.agg #[.slice A xs.length c, .bool r], .agg #[.slice B ys.length d, .bool t]] W fun e w' => e = .returned (.bool true) ∧ Below W.heap.size W w' := by
  unfold maxLen at hz kz
  have HI := P2.enter h k (ML.of hsh) r t 25
  have HSX := Lib.hid (fun w (h : RT w A c xs) => small_any A c xs r w h hg)
  have HSY := Lib.hid (fun w (h : RT w B d ys) => small_any B d ys t w h kg)
  have HZX := Lib.hid hz
  have HZY := Lib.hid kz
  have HW : Hid (∀ (A B : Option Addr) (c d : Nat) (xs ys : List ByteArray) (r t : Bool) (w : World), (∀ x ∈ xs, x.size ≤ 9223372036854775807) → (∀ x ∈ ys, x.size ≤ 9223372036854775807) → RT w A c xs → RT w B d ys →
      Calls Tryd.prog 32 #[.agg #[.slice A xs.length c, .bool r], .agg #[.slice B ys.length d, .bool t]] w fun e w' => e = .returned (.bool (withinOk insB xs ys r t)) ∧ Below w.heap.size w w') := Lib.hid (fun A B c d xs ys r t w hz kz h k => within_any A B c d xs ys r t w h k hz kz)
  have HV : Hid (∀ (A B : Option Addr) (c d : Nat) (xs ys : List ByteArray) (r t : Bool) (w : World), (∀ x ∈ xs, x.size ≤ 9223372036854775807) → (∀ x ∈ ys, x.size ≤ 9223372036854775807) → RT w A c xs → RT w B d ys →
      Calls Tryd.prog 33 #[.agg #[.slice A xs.length c, .bool r], .agg #[.slice B ys.length d, .bool t]] w fun e w' => e = .returned (.bool (withinOk insB xs ys r t)) ∧ Below w.heap.size w w') := Lib.hid (fun A B c d xs ys r t w hz kz h k => by rw [within_agree]; exact rwithin_any A B c d xs ys r t w h k hz kz)
  clear hsh h hz hg k kz kg
  generalize smallB xs = s1 at *
  generalize smallB ys = s2 at *
  go_enter Tryd.func8, Tryd.ntmps8
  go_wp2_with (first
    | (go_at_call_of 22 (Value.agg #[.slice A xs.length c, .bool r]); refine (HSX.out _ (P2.x (HI.go (by repeat (first | exact Below.refl _ _ | apply Below.drew | apply below_drewN | apply below_al))))).mono ?_; rintro e w1 ⟨rfl, hb⟩; replace HI := HI.go2 (by repeat (first | exact Below.refl _ _ | apply Below.drew | apply below_drewN | apply below_al)) hb; clear hb; obtain ⟨p1, p2, q1, q2⟩ := P2.cells HI)
    | (go_at_call_of 22 (Value.agg #[.slice B ys.length d, .bool t]); refine (HSY.out _ (P2.y (HI.go (by repeat (first | exact Below.refl _ _ | apply Below.drew | apply below_drewN | apply below_al))))).mono ?_; rintro e w2 ⟨rfl, hb⟩; replace HI := HI.go2 (by repeat (first | exact Below.refl _ _ | apply Below.drew | apply below_drewN | apply below_al)) hb; clear hb; obtain ⟨p1, p2, q1, q2⟩ := P2.cells HI)
    | (go_at_call 18; refine (pawake_any _ (P2.m (HI.go (by repeat (first | exact Below.refl _ _ | apply Below.drew | apply below_drewN | apply below_al))))).mono ?_; rintro e w3 ⟨rfl, hb⟩; replace HI := HI.go2 (by repeat (first | exact Below.refl _ _ | apply Below.drew | apply below_drewN | apply below_al)) hb; clear hb))
  all_goals try (go_ret; exact ⟨rfl, P2.b (HI.go (by repeat (first | exact Below.refl _ _ | apply Below.drew | apply below_drewN | apply below_al)))⟩)
  go_region_held3? (fun w' => (w'.cell? ⟨W.heap.size, 0, none⟩ = some (.slice A xs.length c) ∧ w'.cell? ⟨W.heap.size, 1, none⟩ = some (.bool r) ∧ w'.cell? ⟨W.heap.size + 1, 0, none⟩ = some (.slice B ys.length d) ∧ w'.cell? ⟨W.heap.size + 1, 1, none⟩ = some (.bool t)) ∧ At (P2 W A c xs r B d ys t) w')
    ((exact ⟨P2.cells (HI.go (by repeat (first | exact Below.refl _ _ | apply Below.drew | apply below_drewN | apply below_al))), HI.go (by repeat (first | exact Below.refl _ _ | apply Below.drew | apply below_drewN | apply below_al))⟩))
    (first
      | (go_at_call 32; refine (HW.out _ _ _ _ _ _ _ _ _ (by first | exact HZX.out | exact HZY.out) (by first | exact HZX.out | exact HZY.out) (by first | exact P2.x (HI.go (by repeat (first | exact Below.refl _ _ | apply Below.drew | apply below_drewN | apply below_al))) | exact P2.y (HI.go (by repeat (first | exact Below.refl _ _ | apply Below.drew | apply below_drewN | apply below_al)))) (by first | exact P2.x (HI.go (by repeat (first | exact Below.refl _ _ | apply Below.drew | apply below_drewN | apply below_al))) | exact P2.y (HI.go (by repeat (first | exact Below.refl _ _ | apply Below.drew | apply below_drewN | apply below_al))))).mono ?_; rintro e w1 ⟨rfl, hb⟩; replace HI := HI.go2 (by repeat (first | exact Below.refl _ _ | apply Below.drew | apply below_drewN | apply below_al)) hb; clear hb)
      | (go_at_call 33; refine (HV.out _ _ _ _ _ _ _ _ _ (by first | exact HZX.out | exact HZY.out) (by first | exact HZX.out | exact HZY.out) (by first | exact P2.x (HI.go (by repeat (first | exact Below.refl _ _ | apply Below.drew | apply below_drewN | apply below_al))) | exact P2.y (HI.go (by repeat (first | exact Below.refl _ _ | apply Below.drew | apply below_drewN | apply below_al)))) (by first | exact P2.x (HI.go (by repeat (first | exact Below.refl _ _ | apply Below.drew | apply below_drewN | apply below_al))) | exact P2.y (HI.go (by repeat (first | exact Below.refl _ _ | apply Below.drew | apply below_drewN | apply below_al))))).mono ?_; rintro e w1 ⟨rfl, hb⟩; replace HI := HI.go2 (by repeat (first | exact Below.refl _ _ | apply Below.drew | apply below_drewN | apply below_al)) hb; clear hb)
      | (go_at_call 18; refine (pawake_any _ (P2.m (HI.go (by repeat (first | exact Below.refl _ _ | apply Below.drew | apply below_drewN | apply below_al))))).mono ?_; rintro e w3 ⟨rfl, hb⟩; replace HI := HI.go2 (by repeat (first | exact Below.refl _ _ | apply Below.drew | apply below_drewN | apply below_al)) hb; clear hb))
  all_goals (go_wp2_with fail)
  all_goals (go_ret; exact ⟨rfl, P2.b (HI.go (by repeat (first | exact Below.refl _ _ | apply Below.drew | apply below_drewN | apply below_al)))⟩)
end Go.Proofs.YtofmngfmoagenaaDoor

