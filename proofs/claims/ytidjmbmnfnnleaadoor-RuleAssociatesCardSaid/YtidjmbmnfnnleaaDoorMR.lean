/-
  Several texts in one: R1, R2, R3, R4.
-/
import Derived.Test.YtidjmbmnfnnleaaDoorMD
import Derived.Test.YtidjmbmnfnnleaaDoorQ22
import Derived.Test.YtidjmbmnfnnleaaDoorQ18
import Derived.Deep.RegionHeld3

/-
  Rules: a rule's box, and the walks of Check.
-/
namespace Go.Proofs.YtidjmbmnfnnleaaDoor
set_option linter.unusedSimpArgs false
set_option linter.unusedVariables false
open Go.RowKit
open Pm

/-- what is wrong with a rule -/
def ruleE (xs : List ByteArray) (r : Bool) (ys : List ByteArray) (t : Bool) : Int :=
  if checkP xs r ≠ 0 then 40 else if checkP ys t ≠ 0 then 41 else if countB stB xs = countB stB ys ∧ r = t then 0 else 42
theorem ruleE_zero {xs ys : List ByteArray} {r t : Bool} : ruleE xs r ys t = 0 ↔ checkP xs r = 0 ∧ checkP ys t = 0 ∧ countB stB xs = countB stB ys ∧ r = t := by
  unfold ruleE
  by_cases h1 : checkP xs r = 0
  · rw [if_neg (by simp [h1])]
    by_cases h2 : checkP ys t = 0
    · rw [if_neg (by simp [h2])]
      by_cases h3 : countB stB xs = countB stB ys ∧ r = t
      · rw [if_pos h3]
        exact ⟨fun _ => ⟨h1, h2, h3.1, h3.2⟩, fun _ => rfl⟩
      · rw [if_neg h3]
        exact ⟨fun h => (by cases h), fun h => absurd ⟨h.2.2.1, h.2.2.2⟩ h3⟩
    · rw [if_pos h2]
      exact ⟨fun h => (by cases h), fun h => absurd h.2.1 h2⟩
  · rw [if_pos h1]
    exact ⟨fun h => (by cases h), fun h => absurd h.1 h1⟩
theorem ruleE_turn {xs ys : List ByteArray} {r t : Bool} : ruleE xs r ys t = 0 ↔ ruleE ys t xs r = 0 := by
  rw [ruleE_zero, ruleE_zero]
  exact ⟨fun h => ⟨h.2.1, h.1, h.2.2.1.symm, h.2.2.2.symm⟩, fun h => ⟨h.2.1, h.1, h.2.2.1.symm, h.2.2.2.symm⟩⟩

/-- a rule's value, and its cells -/
def ruV (ex : Bool) (A : Option Addr) (c : Nat) (xs : List ByteArray) (r : Bool) (B : Option Addr) (d : Nat) (ys : List ByteArray) (t : Bool) : Value :=
  .agg #[.bool ex, .slice A xs.length c, .bool r, .slice B ys.length d, .bool t]
/-- a box of five cells -/
def P5 (w : World) (g : Nat) (u0 u1 u2 u3 u4 : Value) : Prop :=
  w.cell? ⟨g, 0, none⟩ = some u0 ∧ w.cell? ⟨g, 1, none⟩ = some u1 ∧ w.cell? ⟨g, 2, none⟩ = some u2 ∧ w.cell? ⟨g, 3, none⟩ = some u3 ∧ w.cell? ⟨g, 4, none⟩ = some u4 ∧ g < w.heap.size
theorem P5.new (w : World) (u0 u1 u2 u3 u4 : Value) (T : TypeId) : P5 (w.alloc (.cells #[u0, u1, u2, u3, u4] T)) w.heap.size u0 u1 u2 u3 u4 :=
  ⟨by simp [World.cell?_alloc_new], by simp [World.cell?_alloc_new], by simp [World.cell?_alloc_new], by simp [World.cell?_alloc_new], by simp [World.cell?_alloc_new], by simp⟩
theorem kept_p5 (g : Nat) (u0 u1 u2 u3 u4 : Value) : Kept (fun w => P5 w g u0 u1 u2 u3 u4) := fun w w' h hb =>
  ⟨(hb.cell (p := ⟨g, 0, none⟩) h.2.2.2.2.2).trans h.1, (hb.cell (p := ⟨g, 1, none⟩) h.2.2.2.2.2).trans h.2.1, (hb.cell (p := ⟨g, 2, none⟩) h.2.2.2.2.2).trans h.2.2.1, (hb.cell (p := ⟨g, 3, none⟩) h.2.2.2.2.2).trans h.2.2.2.1, (hb.cell (p := ⟨g, 4, none⟩) h.2.2.2.2.2).trans h.2.2.2.2.1, Nat.lt_of_lt_of_le h.2.2.2.2.2 hb.size⟩
/-- the state: a rule in a box of its own, and where its texts lie -/
def PR (W : World) (ex : Bool) (A : Option Addr) (c : Nat) (xs : List ByteArray) (r : Bool) (B : Option Addr) (d : Nat) (ys : List ByteArray) (t : Bool) (w : World) : Prop :=
  P5 w W.heap.size (.bool ex) (.slice A xs.length c) (.bool r) (.slice B ys.length d) (.bool t) ∧ RT w A c xs ∧ RT w B d ys ∧ ML w ∧ Below W.heap.size W w
theorem PR.kept (W : World) (ex : Bool) (A : Option Addr) (c : Nat) (xs : List ByteArray) (r : Bool) (B : Option Addr) (d : Nat) (ys : List ByteArray) (t : Bool) : Kept (PR W ex A c xs r B d ys t) :=
  (kept_p5 _ _ _ _ _ _).both ((kept_rt _ _ _).both ((kept_rt _ _ _).both (kept_ml.both (kept_below _))))
theorem PR.enter {W : World} {A : Option Addr} {c : Nat} {xs : List ByteArray} {B : Option Addr} {d : Nat} {ys : List ByteArray} (h : RT W A c xs) (k : RT W B d ys) (m : ML W) (ex r t : Bool) (T : TypeId) :
    At (PR W ex A c xs r B d ys t) (W.alloc (.cells #[.bool ex, .slice A xs.length c, .bool r, .slice B ys.length d, .bool t] T)) :=
  ⟨PR.kept _ _ _ _ _ _ _ _ _ _, P5.new W _ _ _ _ _ _, h.below (below_alloc _ _), k.below (below_alloc _ _), m.below (below_alloc _ _), below_alloc _ _⟩
theorem PR.cells {W : World} {ex : Bool} {A : Option Addr} {c : Nat} {xs : List ByteArray} {r : Bool} {B : Option Addr} {d : Nat} {ys : List ByteArray} {t : Bool} {w : World} (h : At (PR W ex A c xs r B d ys t) w) :
    P5 w W.heap.size (.bool ex) (.slice A xs.length c) (.bool r) (.slice B ys.length d) (.bool t) := h.out.1
theorem PR.x {W : World} {ex : Bool} {A : Option Addr} {c : Nat} {xs : List ByteArray} {r : Bool} {B : Option Addr} {d : Nat} {ys : List ByteArray} {t : Bool} {w : World} (h : At (PR W ex A c xs r B d ys t) w) : RT w A c xs := h.out.2.1
theorem PR.y {W : World} {ex : Bool} {A : Option Addr} {c : Nat} {xs : List ByteArray} {r : Bool} {B : Option Addr} {d : Nat} {ys : List ByteArray} {t : Bool} {w : World} (h : At (PR W ex A c xs r B d ys t) w) : RT w B d ys := h.out.2.2.1
theorem PR.m {W : World} {ex : Bool} {A : Option Addr} {c : Nat} {xs : List ByteArray} {r : Bool} {B : Option Addr} {d : Nat} {ys : List ByteArray} {t : Bool} {w : World} (h : At (PR W ex A c xs r B d ys t) w) : ML w := h.out.2.2.2.1
theorem PR.b {W : World} {ex : Bool} {A : Option Addr} {c : Nat} {xs : List ByteArray} {r : Bool} {B : Option Addr} {d : Nat} {ys : List ByteArray} {t : Bool} {w : World} (h : At (PR W ex A c xs r B d ys t) w) : Below W.heap.size W w := h.out.2.2.2.2
theorem ret_n {a b : Int} (h : a = b) : Ending.returned (.int .i64 a) = .returned (.int .i64 b) := by rw [h]
theorem five9 {xs : List ByteArray} (h : ∀ x ∈ xs, x.size ≤ 5000) : ∀ x ∈ xs, x.size ≤ 9223372036854775807 := fun x hx => by have := h x hx; omega
theorem kind_zero {xs : List ByteArray} {r : Bool} (h : checkP xs r = 0) : kindN xs r = countB stB xs ∧ kindR xs r = r := kindN_eq h

set_option maxHeartbeats 2000000 in
theorem ruleCheck_any (ex : Bool) (A B : Option Addr) (c d : Nat) (xs ys : List ByteArray) (r t : Bool) (w : World) (h : RT w A c xs) (k : RT w B d ys) (hm : ML w) (hsx : ∀ x ∈ xs, x.size ≤ 5000) (hsy : ∀ x ∈ ys, x.size ≤ 5000) :
    Calls Tryd.prog 21 #[ruV ex A c xs r B d ys t] w fun e w' => e = .returned (.int .i64 (ruleE xs r ys t)) ∧ Below w.heap.size w w' := by
  unfold ruV
  have HI := PR.enter h k hm ex r t 26
  have HKX := Lib.hid (fun w h => kinds_any A c xs r w h (five9 hsx))
  have HKY := Lib.hid (fun w h => kinds_any B d ys t w h (five9 hsy))
  have HR : Hid (ruleE xs r ys t = if checkP xs r ≠ 0 then 40 else if checkP ys t ≠ 0 then 41 else if countB stB xs = countB stB ys ∧ r = t then 0 else 42) := Lib.hid rfl
  have hx1 := h.1
  have hx2 := h.2.1
  have hy1 := k.1
  have hy2 := k.2.1
  clear h k hm hsx hsy
  by_cases h1 : checkP xs r = 0
  · rw [(kind_zero h1).1, (kind_zero h1).2, h1] at HKX
    by_cases h2 : checkP ys t = 0
    · rw [(kind_zero h2).1, (kind_zero h2).2, h2] at HKY
      rw [h1, h2] at HR
      simp only [ne_eq, not_true_eq_false, if_false] at HR
      clear h1 h2
      generalize countB stB xs = n at *
      generalize countB stB ys = m at *
      by_cases h3 : n = m
      · subst h3
        by_cases h4 : r = t
        · subst h4
          simp at HR
          have hrr : (r != r) = false := by simp
          rw [HR.out]
          go_enter Tryd.func21, Tryd.ntmps21
          go_wp2_with (first
            | (go_at_call_of 40 (Value.agg #[.slice A xs.length c, .bool r]); refine (HKX.out _ (PR.x (HI.go (by repeat (first | exact Below.refl _ _ | apply Below.drew | apply below_drewN | apply below_al))))).mono ?_; rintro e w1 ⟨rfl, hb⟩; replace HI := HI.go2 (by repeat (first | exact Below.refl _ _ | apply Below.drew | apply below_drewN | apply below_al)) hb; clear hb; obtain ⟨p1, p2, p3, p4, p5, p6⟩ := PR.cells HI)
            | (go_at_call_of 40 (Value.agg #[.slice B ys.length d, .bool r]); refine (HKY.out _ (PR.y (HI.go (by repeat (first | exact Below.refl _ _ | apply Below.drew | apply below_drewN | apply below_al))))).mono ?_; rintro e w1 ⟨rfl, hb⟩; replace HI := HI.go2 (by repeat (first | exact Below.refl _ _ | apply Below.drew | apply below_drewN | apply below_al)) hb; clear hb; obtain ⟨p1, p2, p3, p4, p5, p6⟩ := PR.cells HI))
          go_ret
          exact ⟨rfl, PR.b HI⟩
        · have hrr : (r == t) = false := by rw [beq_eq_false_iff_ne]; exact h4
          simp [h4] at HR
          clear h4
          rw [HR.out]
          go_enter Tryd.func21, Tryd.ntmps21
          go_wp2_with (first
            | (go_at_call_of 40 (Value.agg #[.slice A xs.length c, .bool r]); refine (HKX.out _ (PR.x (HI.go (by repeat (first | exact Below.refl _ _ | apply Below.drew | apply below_drewN | apply below_al))))).mono ?_; rintro e w1 ⟨rfl, hb⟩; replace HI := HI.go2 (by repeat (first | exact Below.refl _ _ | apply Below.drew | apply below_drewN | apply below_al)) hb; clear hb; obtain ⟨p1, p2, p3, p4, p5, p6⟩ := PR.cells HI)
            | (go_at_call_of 40 (Value.agg #[.slice B ys.length d, .bool t]); refine (HKY.out _ (PR.y (HI.go (by repeat (first | exact Below.refl _ _ | apply Below.drew | apply below_drewN | apply below_al))))).mono ?_; rintro e w1 ⟨rfl, hb⟩; replace HI := HI.go2 (by repeat (first | exact Below.refl _ _ | apply Below.drew | apply below_drewN | apply below_al)) hb; clear hb; obtain ⟨p1, p2, p3, p4, p5, p6⟩ := PR.cells HI))
          go_ret
          exact ⟨rfl, PR.b HI⟩
      · have hnm : ((n : Int) != (m : Int)) = true := by rw [bne_iff_ne]; omega
        simp [h3] at HR
        rw [HR.out]
        clear h3
        go_enter Tryd.func21, Tryd.ntmps21
        go_wp2_with (first
          | (go_at_call_of 40 (Value.agg #[.slice A xs.length c, .bool r]); refine (HKX.out _ (PR.x (HI.go (by repeat (first | exact Below.refl _ _ | apply Below.drew | apply below_drewN | apply below_al))))).mono ?_; rintro e w1 ⟨rfl, hb⟩; replace HI := HI.go2 (by repeat (first | exact Below.refl _ _ | apply Below.drew | apply below_drewN | apply below_al)) hb; clear hb; obtain ⟨p1, p2, p3, p4, p5, p6⟩ := PR.cells HI)
            | (go_at_call_of 40 (Value.agg #[.slice B ys.length d, .bool t]); refine (HKY.out _ (PR.y (HI.go (by repeat (first | exact Below.refl _ _ | apply Below.drew | apply below_drewN | apply below_al))))).mono ?_; rintro e w1 ⟨rfl, hb⟩; replace HI := HI.go2 (by repeat (first | exact Below.refl _ _ | apply Below.drew | apply below_drewN | apply below_al)) hb; clear hb; obtain ⟨p1, p2, p3, p4, p5, p6⟩ := PR.cells HI))
        go_ret
        exact ⟨rfl, PR.b HI⟩
    · have hnB : (checkP ys t != 0) = true := by rw [bne_iff_ne]; exact h2
      rw [h1] at HR
      simp only [ne_eq, not_true_eq_false, if_false, h2, not_false_eq_true, if_true] at HR
      rw [HR.out]
      clear h1 h2
      generalize checkP ys t = n at *
      generalize kindN ys t = kn at *
      generalize kindR ys t = kr at *
      go_enter Tryd.func21, Tryd.ntmps21
      go_wp2_with (first
        | (go_at_call_of 40 (Value.agg #[.slice A xs.length c, .bool r]); refine (HKX.out _ (PR.x (HI.go (by repeat (first | exact Below.refl _ _ | apply Below.drew | apply below_drewN | apply below_al))))).mono ?_; rintro e w1 ⟨rfl, hb⟩; replace HI := HI.go2 (by repeat (first | exact Below.refl _ _ | apply Below.drew | apply below_drewN | apply below_al)) hb; clear hb; obtain ⟨p1, p2, p3, p4, p5, p6⟩ := PR.cells HI)
            | (go_at_call_of 40 (Value.agg #[.slice B ys.length d, .bool t]); refine (HKY.out _ (PR.y (HI.go (by repeat (first | exact Below.refl _ _ | apply Below.drew | apply below_drewN | apply below_al))))).mono ?_; rintro e w1 ⟨rfl, hb⟩; replace HI := HI.go2 (by repeat (first | exact Below.refl _ _ | apply Below.drew | apply below_drewN | apply below_al)) hb; clear hb; obtain ⟨p1, p2, p3, p4, p5, p6⟩ := PR.cells HI))
      go_ret
      exact ⟨rfl, PR.b HI⟩
  · have hnB : (checkP xs r != 0) = true := by rw [bne_iff_ne]; exact h1
    simp only [ne_eq, h1, not_false_eq_true, if_true] at HR
    rw [HR.out]
    clear h1
    generalize checkP xs r = n at *
    generalize kindN xs r = kn at *
    generalize kindR xs r = kr at *
    go_enter Tryd.func21, Tryd.ntmps21
    go_wp2_with (go_at_call 40; refine (HKX.out _ (PR.x (HI.go (by repeat (first | exact Below.refl _ _ | apply Below.drew | apply below_drewN | apply below_al))))).mono ?_; rintro e w1 ⟨rfl, hb⟩; replace HI := HI.go2 (by repeat (first | exact Below.refl _ _ | apply Below.drew | apply below_drewN | apply below_al)) hb; clear hb)
    go_ret
    exact ⟨rfl, PR.b HI⟩

set_option maxHeartbeats 2000000 in
theorem rruleCheck_any (ex : Bool) (A B : Option Addr) (c d : Nat) (xs ys : List ByteArray) (r t : Bool) (w : World) (h : RT w A c xs) (k : RT w B d ys) (hm : ML w) (hsx : ∀ x ∈ xs, x.size ≤ 5000) (hsy : ∀ x ∈ ys, x.size ≤ 5000) :
    Calls Tryd.prog 22 #[ruV ex A c xs r B d ys t] w fun e w' => e = .returned (.int .i64 (ruleE xs r ys t)) ∧ Below w.heap.size w w' := by
  unfold ruV
  have HI := PR.enter h k hm ex r t 26
  have HKX := Lib.hid (fun w h => rkinds_any A c xs r w h (five9 hsx))
  have HKY := Lib.hid (fun w h => rkinds_any B d ys t w h (five9 hsy))
  have HCX := Lib.hid (fun w h => rcheck_any A c xs r w h (five9 hsx))
  have HCY := Lib.hid (fun w h => rcheck_any B d ys t w h (five9 hsy))
  have HR : Hid (ruleE xs r ys t = if checkP xs r ≠ 0 then 40 else if checkP ys t ≠ 0 then 41 else if countB stB xs = countB stB ys ∧ r = t then 0 else 42) := Lib.hid rfl
  have hx1 := h.1
  have hx2 := h.2.1
  have hy1 := k.1
  have hy2 := k.2.1
  clear h k hm hsx hsy
  by_cases h1 : checkP xs r = 0
  · rw [count_agree (parts_all (check_zero h1).2.2)] at HKX
    rw [h1] at HCX
    by_cases h2 : checkP ys t = 0
    · rw [count_agree (parts_all (check_zero h2).2.2)] at HKY
      rw [h2] at HCY
      rw [h1, h2] at HR
      simp only [ne_eq, not_true_eq_false, if_false] at HR
      clear h1 h2
      generalize countB stB xs = n at *
      generalize countB stB ys = m at *
      by_cases h3 : n = m
      · subst h3
        by_cases h4 : r = t
        · subst h4
          simp at HR
          have hrr : (r != r) = false := by simp
          rw [HR.out]
          go_enter Tryd.func22, Tryd.ntmps22
          go_wp2_with (first
            | (go_at_call_of 41 (Value.agg #[.slice A xs.length c, .bool r]); refine (HCX.out _ (PR.x (HI.go (by repeat (first | exact Below.refl _ _ | apply Below.drew | apply below_drewN | apply below_al))))).mono ?_; rintro e w1 ⟨rfl, hb⟩; replace HI := HI.go2 (by repeat (first | exact Below.refl _ _ | apply Below.drew | apply below_drewN | apply below_al)) hb; clear hb; obtain ⟨p1, p2, p3, p4, p5, p6⟩ := PR.cells HI)
            | (go_at_call_of 41 (Value.agg #[.slice B ys.length d, .bool r]); refine (HCY.out _ (PR.y (HI.go (by repeat (first | exact Below.refl _ _ | apply Below.drew | apply below_drewN | apply below_al))))).mono ?_; rintro e w1 ⟨rfl, hb⟩; replace HI := HI.go2 (by repeat (first | exact Below.refl _ _ | apply Below.drew | apply below_drewN | apply below_al)) hb; clear hb; obtain ⟨p1, p2, p3, p4, p5, p6⟩ := PR.cells HI)
            | (go_at_call_of 42 (Value.agg #[.slice A xs.length c, .bool r]); refine (HKX.out _ (PR.x (HI.go (by repeat (first | exact Below.refl _ _ | apply Below.drew | apply below_drewN | apply below_al))))).mono ?_; rintro e w1 ⟨rfl, hb⟩; replace HI := HI.go2 (by repeat (first | exact Below.refl _ _ | apply Below.drew | apply below_drewN | apply below_al)) hb; clear hb; obtain ⟨p1, p2, p3, p4, p5, p6⟩ := PR.cells HI)
            | (go_at_call_of 42 (Value.agg #[.slice B ys.length d, .bool r]); refine (HKY.out _ (PR.y (HI.go (by repeat (first | exact Below.refl _ _ | apply Below.drew | apply below_drewN | apply below_al))))).mono ?_; rintro e w1 ⟨rfl, hb⟩; replace HI := HI.go2 (by repeat (first | exact Below.refl _ _ | apply Below.drew | apply below_drewN | apply below_al)) hb; clear hb; obtain ⟨p1, p2, p3, p4, p5, p6⟩ := PR.cells HI))
          go_ret
          exact ⟨rfl, PR.b HI⟩
        · have hrr : (r == t) = false := by rw [beq_eq_false_iff_ne]; exact h4
          simp [h4] at HR
          clear h4
          rw [HR.out]
          go_enter Tryd.func22, Tryd.ntmps22
          go_wp2_with (first
            | (go_at_call_of 41 (Value.agg #[.slice A xs.length c, .bool r]); refine (HCX.out _ (PR.x (HI.go (by repeat (first | exact Below.refl _ _ | apply Below.drew | apply below_drewN | apply below_al))))).mono ?_; rintro e w1 ⟨rfl, hb⟩; replace HI := HI.go2 (by repeat (first | exact Below.refl _ _ | apply Below.drew | apply below_drewN | apply below_al)) hb; clear hb; obtain ⟨p1, p2, p3, p4, p5, p6⟩ := PR.cells HI)
            | (go_at_call_of 41 (Value.agg #[.slice B ys.length d, .bool t]); refine (HCY.out _ (PR.y (HI.go (by repeat (first | exact Below.refl _ _ | apply Below.drew | apply below_drewN | apply below_al))))).mono ?_; rintro e w1 ⟨rfl, hb⟩; replace HI := HI.go2 (by repeat (first | exact Below.refl _ _ | apply Below.drew | apply below_drewN | apply below_al)) hb; clear hb; obtain ⟨p1, p2, p3, p4, p5, p6⟩ := PR.cells HI)
            | (go_at_call_of 42 (Value.agg #[.slice A xs.length c, .bool r]); refine (HKX.out _ (PR.x (HI.go (by repeat (first | exact Below.refl _ _ | apply Below.drew | apply below_drewN | apply below_al))))).mono ?_; rintro e w1 ⟨rfl, hb⟩; replace HI := HI.go2 (by repeat (first | exact Below.refl _ _ | apply Below.drew | apply below_drewN | apply below_al)) hb; clear hb; obtain ⟨p1, p2, p3, p4, p5, p6⟩ := PR.cells HI)
            | (go_at_call_of 42 (Value.agg #[.slice B ys.length d, .bool t]); refine (HKY.out _ (PR.y (HI.go (by repeat (first | exact Below.refl _ _ | apply Below.drew | apply below_drewN | apply below_al))))).mono ?_; rintro e w1 ⟨rfl, hb⟩; replace HI := HI.go2 (by repeat (first | exact Below.refl _ _ | apply Below.drew | apply below_drewN | apply below_al)) hb; clear hb; obtain ⟨p1, p2, p3, p4, p5, p6⟩ := PR.cells HI))
          go_ret
          exact ⟨rfl, PR.b HI⟩
      · have hnm : ((n : Int) != (m : Int)) = true := by rw [bne_iff_ne]; omega
        simp [h3] at HR
        rw [HR.out]
        clear h3
        go_enter Tryd.func22, Tryd.ntmps22
        go_wp2_with (first
          | (go_at_call_of 41 (Value.agg #[.slice A xs.length c, .bool r]); refine (HCX.out _ (PR.x (HI.go (by repeat (first | exact Below.refl _ _ | apply Below.drew | apply below_drewN | apply below_al))))).mono ?_; rintro e w1 ⟨rfl, hb⟩; replace HI := HI.go2 (by repeat (first | exact Below.refl _ _ | apply Below.drew | apply below_drewN | apply below_al)) hb; clear hb; obtain ⟨p1, p2, p3, p4, p5, p6⟩ := PR.cells HI)
            | (go_at_call_of 41 (Value.agg #[.slice B ys.length d, .bool t]); refine (HCY.out _ (PR.y (HI.go (by repeat (first | exact Below.refl _ _ | apply Below.drew | apply below_drewN | apply below_al))))).mono ?_; rintro e w1 ⟨rfl, hb⟩; replace HI := HI.go2 (by repeat (first | exact Below.refl _ _ | apply Below.drew | apply below_drewN | apply below_al)) hb; clear hb; obtain ⟨p1, p2, p3, p4, p5, p6⟩ := PR.cells HI)
          | (go_at_call_of 42 (Value.agg #[.slice A xs.length c, .bool r]); refine (HKX.out _ (PR.x (HI.go (by repeat (first | exact Below.refl _ _ | apply Below.drew | apply below_drewN | apply below_al))))).mono ?_; rintro e w1 ⟨rfl, hb⟩; replace HI := HI.go2 (by repeat (first | exact Below.refl _ _ | apply Below.drew | apply below_drewN | apply below_al)) hb; clear hb; obtain ⟨p1, p2, p3, p4, p5, p6⟩ := PR.cells HI)
            | (go_at_call_of 42 (Value.agg #[.slice B ys.length d, .bool t]); refine (HKY.out _ (PR.y (HI.go (by repeat (first | exact Below.refl _ _ | apply Below.drew | apply below_drewN | apply below_al))))).mono ?_; rintro e w1 ⟨rfl, hb⟩; replace HI := HI.go2 (by repeat (first | exact Below.refl _ _ | apply Below.drew | apply below_drewN | apply below_al)) hb; clear hb; obtain ⟨p1, p2, p3, p4, p5, p6⟩ := PR.cells HI))
        go_ret
        exact ⟨rfl, PR.b HI⟩
    · have hnB : (checkP ys t != 0) = true := by rw [bne_iff_ne]; exact h2
      rw [h1] at HR
      simp only [ne_eq, not_true_eq_false, if_false, h2, not_false_eq_true, if_true] at HR
      rw [HR.out]
      clear h1 h2
      generalize checkP ys t = n at *
      go_enter Tryd.func22, Tryd.ntmps22
      go_wp2_with (first
        | (go_at_call_of 41 (Value.agg #[.slice A xs.length c, .bool r]); refine (HCX.out _ (PR.x (HI.go (by repeat (first | exact Below.refl _ _ | apply Below.drew | apply below_drewN | apply below_al))))).mono ?_; rintro e w1 ⟨rfl, hb⟩; replace HI := HI.go2 (by repeat (first | exact Below.refl _ _ | apply Below.drew | apply below_drewN | apply below_al)) hb; clear hb; obtain ⟨p1, p2, p3, p4, p5, p6⟩ := PR.cells HI)
        | (go_at_call_of 41 (Value.agg #[.slice B ys.length d, .bool t]); refine (HCY.out _ (PR.y (HI.go (by repeat (first | exact Below.refl _ _ | apply Below.drew | apply below_drewN | apply below_al))))).mono ?_; rintro e w1 ⟨rfl, hb⟩; replace HI := HI.go2 (by repeat (first | exact Below.refl _ _ | apply Below.drew | apply below_drewN | apply below_al)) hb; clear hb; obtain ⟨p1, p2, p3, p4, p5, p6⟩ := PR.cells HI))
      go_ret
      exact ⟨rfl, PR.b HI⟩
  · have hnB : (checkP xs r != 0) = true := by rw [bne_iff_ne]; exact h1
    simp only [ne_eq, h1, not_false_eq_true, if_true] at HR
    rw [HR.out]
    clear h1
    generalize checkP xs r = n at *
    go_enter Tryd.func22, Tryd.ntmps22
    go_wp2_with (go_at_call 41; refine (HCX.out _ (PR.x (HI.go (by repeat (first | exact Below.refl _ _ | apply Below.drew | apply below_drewN | apply below_al))))).mono ?_; rintro e w1 ⟨rfl, hb⟩; replace HI := HI.go2 (by repeat (first | exact Below.refl _ _ | apply Below.drew | apply below_drewN | apply below_al)) hb; clear hb)
    go_ret
    exact ⟨rfl, PR.b HI⟩
end Go.Proofs.YtidjmbmnfnnleaaDoor

/-
  Rules: the walks of Forward and Backward.
-/
namespace Go.Proofs.YtidjmbmnfnnleaaDoor
set_option linter.unusedSimpArgs false
set_option linter.unusedVariables false
open Go.RowKit
open Pm

/-- the captures, none if the path does not match -/
def mxB (xs : List ByteArray) (r : Bool) (s : ByteArray) : List ByteArray := if matchOk mpOk xs r s = true then capsB stB mpCap xs r s else []
def RetMX (w : World) (ys : List ByteArray) (b : Bool) (e : Ending) (w' : World) : Prop := ∃ A c, e = .returned (.tuple #[.slice A ys.length c, .bool b]) ∧ RT w' A c ys ∧ Below w.heap.size w w'
theorem mx_one {xs : List ByteArray} {r : Bool} {s : ByteArray} {w w' : World} {e : Ending} (h : RetC w (capsB stB mpCap xs r s) (matchOk mpOk xs r s) e w') : RetMX w (mxB xs r s) (matchOk mpOk xs r s) e w' := by
  unfold mxB
  cases hm : matchOk mpOk xs r s with
  | true =>
    obtain ⟨A, c, he, hr, hb⟩ := h.1 hm
    exact ⟨A, c, he, hr, hb⟩
  | false =>
    obtain ⟨he, hb⟩ := h.2 hm
    exact ⟨none, 0, he, RT.nil _ _ _ (by omega), hb⟩
theorem mx_two {xs : List ByteArray} {r : Bool} {s : ByteArray} {w w' : World} {e : Ending} (h : RetC w (capsB starOk cpCap xs r s) (matchOk cpOk xs r s) e w') : RetMX w (mxB xs r s) (matchOk mpOk xs r s) e w' := by
  have ha := match_agree xs r s
  unfold mxB
  cases hm : matchOk mpOk xs r s with
  | true =>
    have e2 := ha.2 hm
    rw [ha.1] at hm
    obtain ⟨A, c, he, hr, hb⟩ := h.1 hm
    rw [if_pos rfl, e2]
    exact ⟨A, c, he, hr, hb⟩
  | false =>
    rw [ha.1] at hm
    obtain ⟨he, hb⟩ := h.2 hm
    exact ⟨none, 0, he, RT.nil _ _ _ (by omega), hb⟩
theorem mxB_size {xs : List ByteArray} {r : Bool} {s : ByteArray} (hs : s.size ≤ 5000) : ∀ y ∈ mxB xs r s, y.size ≤ 5000 := by
  unfold mxB
  split
  · intro y hy
    have := caps_size y hy
    omega
  · intro y hy
    cases hy
/-- what a rule makes of a path -/
def trO (xs : List ByteArray) (r : Bool) (ys : List ByteArray) (t : Bool) (s : ByteArray) : Bool := matchOk mpOk xs r s && (fillE ys t (mxB xs r s) == 0)
def trT (xs : List ByteArray) (r : Bool) (ys : List ByteArray) (t : Bool) (s : ByteArray) : ByteArray := if matchOk mpOk xs r s = true then fillT ys t (mxB xs r s) else ⟨#[]⟩
def fwdO (xs : List ByteArray) (r : Bool) (ys : List ByteArray) (t : Bool) (s : ByteArray) : Bool := (ruleE xs r ys t == 0) && trO xs r ys t s
def fwdT (xs : List ByteArray) (r : Bool) (ys : List ByteArray) (t : Bool) (s : ByteArray) : ByteArray := if ruleE xs r ys t = 0 then trT xs r ys t s else ⟨#[]⟩
def RetSB (w : World) (s : ByteArray) (b : Bool) (e : Ending) (w' : World) : Prop := e = .returned (.tuple #[.string s, .bool b]) ∧ Below w.heap.size w w'

set_option maxHeartbeats 2000000 in
theorem translate_any (A B : Option Addr) (c d : Nat) (xs ys : List ByteArray) (r t : Bool) (s : ByteArray) (w : World) (h : RT w A c xs) (k : RT w B d ys) (hm : ML w) (hsx : ∀ x ∈ xs, x.size ≤ 5000) (hsy : ∀ x ∈ ys, x.size ≤ 5000) (hs : s.size ≤ 5000) :
    Calls Tryd.prog 35 #[.agg #[.slice A xs.length c, .bool r], .agg #[.slice B ys.length d, .bool t], .string s] w (RetSB w (trT xs r ys t s) (trO xs r ys t s)) := by
  have HI := P2.enter h k hm r t 24
  have HMA := Lib.hid (fun w h m => (match_any A c xs r s w h (five9 hsx) hs m).mono fun _ _ h => mx_one h)
  have HFI := Lib.hid (fun D e w h k m => fill_any B D d e ys (mxB xs r s) t w h k m hsy (mxB_size hs))
  have HT : Hid (trT xs r ys t s = if matchOk mpOk xs r s = true then fillT ys t (mxB xs r s) else ⟨#[]⟩) := Lib.hid rfl
  have HO : Hid (trO xs r ys t s = (matchOk mpOk xs r s && (fillE ys t (mxB xs r s) == 0))) := Lib.hid rfl
  generalize trT xs r ys t s = T at *
  generalize trO xs r ys t s = O at *
  generalize mxB xs r s = cs at *
  generalize fillE ys t cs = n at *
  generalize fillT ys t cs = q at *
  have hx1 := h.1
  have hx2 := h.2.1
  have hy1 := k.1
  have hy2 := k.2.1
  clear h k hm hsx hsy hs
  cases ho : matchOk mpOk xs r s with
  | false =>
    rw [ho] at HMA HT HO
    simp only [Bool.false_and, Bool.false_eq_true, if_false] at HO HT
    rw [HO.out, HT.out]
    clear ho
    go_enter Tryd.func35, Tryd.ntmps35
    go_wp2_with (go_at_call 54; refine (HMA.out _ (P2.x (HI.go (by repeat (first | exact Below.refl _ _ | apply Below.drew | apply below_drewN | apply below_al)))) (P2.m (HI.go (by repeat (first | exact Below.refl _ _ | apply Below.drew | apply below_drewN | apply below_al))))).mono ?_; rintro e w3 ⟨D, m, rfl, hr, hb⟩; replace HI := HI.go2 (by repeat (first | exact Below.refl _ _ | apply Below.drew | apply below_drewN | apply below_al)) hb; clear hb; clear hr)
    go_ret2
    exact ⟨rfl, P2.b (HI.go (by repeat (first | exact Below.refl _ _ | apply Below.drew | apply below_drewN | apply below_al)))⟩
  | true =>
    rw [ho] at HMA HT HO
    simp only [Bool.true_and, if_true] at HO HT
    rw [HO.out, HT.out]
    clear ho
    go_enter Tryd.func35, Tryd.ntmps35
    go_wp2_with (first
      | (go_at_call 54; refine (HMA.out _ (P2.x (HI.go (by repeat (first | exact Below.refl _ _ | apply Below.drew | apply below_drewN | apply below_al)))) (P2.m (HI.go (by repeat (first | exact Below.refl _ _ | apply Below.drew | apply below_drewN | apply below_al))))).mono ?_; rintro e w3 ⟨D, m, rfl, hr, hb⟩; replace HI := HI.go2 (by repeat (first | exact Below.refl _ _ | apply Below.drew | apply below_drewN | apply below_al)) hb; clear hb; have HR : At (fun w => RT w D m cs) w3 := ⟨kept_rt _ _ _, hr⟩; have hr1 := hr.1; have hr2 := hr.2.1; clear hr; obtain ⟨p1, p2, q1, q2⟩ := P2.cells HI)
      | (go_at_call 55; refine (HFI.out _ _ _ (P2.y (HI.go (by repeat (first | exact Below.refl _ _ | apply Below.drew | apply below_drewN | apply below_al)))) (HR.go (by repeat (first | exact Below.refl _ _ | apply Below.drew | apply below_drewN | apply below_al))).out (P2.m (HI.go (by repeat (first | exact Below.refl _ _ | apply Below.drew | apply below_drewN | apply below_al))))).mono ?_; rintro e w4 ⟨rfl, hb⟩; replace HI := HI.go2 (by repeat (first | exact Below.refl _ _ | apply Below.drew | apply below_drewN | apply below_al)) hb; clear hb))
    go_ret2
    exact ⟨rfl, P2.b (HI.go (by repeat (first | exact Below.refl _ _ | apply Below.drew | apply below_drewN | apply below_al)))⟩

set_option maxHeartbeats 2000000 in
theorem forward_any (ex : Bool) (A B : Option Addr) (c d : Nat) (xs ys : List ByteArray) (r t : Bool) (s : ByteArray) (w : World) (h : RT w A c xs) (k : RT w B d ys) (hm : ML w) (hsx : ∀ x ∈ xs, x.size ≤ 5000) (hsy : ∀ x ∈ ys, x.size ≤ 5000) (hs : s.size ≤ 5000) :
    Calls Tryd.prog 16 #[ruV ex A c xs r B d ys t, .string s] w (RetSB w (fwdT xs r ys t s) (fwdO xs r ys t s)) := by
  have HC := Lib.hid (fun w h k m => ruleCheck_any ex A B c d xs ys r t w h k m hsx hsy)
  have HTR := Lib.hid (fun w h k m => translate_any A B c d xs ys r t s w h k m hsx hsy hs)
  have HI := PR.enter h k hm ex r t 26
  unfold ruV at HC ⊢
  have hx1 := h.1
  have hx2 := h.2.1
  have hy1 := k.1
  have hy2 := k.2.1
  clear h k hm hsx hsy hs
  by_cases h0 : ruleE xs r ys t = 0
  · have e1 : (fwdO xs r ys t s) = trO xs r ys t s := by unfold fwdO; rw [h0]; rfl
    have e2 : (fwdT xs r ys t s) = trT xs r ys t s := by unfold fwdT; rw [if_pos h0]
    rw [e1, e2]
    clear e1 e2
    rw [h0] at HC
    clear h0
    generalize trO xs r ys t s = O at *
    generalize trT xs r ys t s = T at *
    go_enter Tryd.func16, Tryd.ntmps16
    go_wp2_with (first
      | (go_at_call 21; refine (HC.out _ (PR.x (HI.go (by repeat (first | exact Below.refl _ _ | apply Below.drew | apply below_drewN | apply below_al)))) (PR.y (HI.go (by repeat (first | exact Below.refl _ _ | apply Below.drew | apply below_drewN | apply below_al)))) (PR.m (HI.go (by repeat (first | exact Below.refl _ _ | apply Below.drew | apply below_drewN | apply below_al))))).mono ?_; rintro e w3 ⟨rfl, hb⟩; replace HI := HI.go2 (by repeat (first | exact Below.refl _ _ | apply Below.drew | apply below_drewN | apply below_al)) hb; clear hb; obtain ⟨p1, p2, p3, p4, p5, p6⟩ := PR.cells HI)
      | (go_at_call 35; refine (HTR.out _ (PR.x (HI.go (by repeat (first | exact Below.refl _ _ | apply Below.drew | apply below_drewN | apply below_al)))) (PR.y (HI.go (by repeat (first | exact Below.refl _ _ | apply Below.drew | apply below_drewN | apply below_al)))) (PR.m (HI.go (by repeat (first | exact Below.refl _ _ | apply Below.drew | apply below_drewN | apply below_al))))).mono ?_; rintro e w4 ⟨rfl, hb⟩; replace HI := HI.go2 (by repeat (first | exact Below.refl _ _ | apply Below.drew | apply below_drewN | apply below_al)) hb; clear hb))
    go_ret2
    exact ⟨rfl, PR.b (HI.go (by repeat (first | exact Below.refl _ _ | apply Below.drew | apply below_drewN | apply below_al)))⟩
  · have e1 : (fwdO xs r ys t s) = false := by unfold fwdO; rw [beq_eq_false_iff_ne.2 h0]; rfl
    have e2 : (fwdT xs r ys t s) = ⟨#[]⟩ := by unfold fwdT; rw [if_neg h0]
    rw [e1, e2]
    clear e1 e2
    have hnB : (ruleE xs r ys t != 0) = true := by rw [bne_iff_ne]; exact h0
    generalize ruleE xs r ys t = n at *
    clear h0
    go_enter Tryd.func16, Tryd.ntmps16
    go_wp2_with (go_at_call 21; refine (HC.out _ (PR.x (HI.go (by repeat (first | exact Below.refl _ _ | apply Below.drew | apply below_drewN | apply below_al)))) (PR.y (HI.go (by repeat (first | exact Below.refl _ _ | apply Below.drew | apply below_drewN | apply below_al)))) (PR.m (HI.go (by repeat (first | exact Below.refl _ _ | apply Below.drew | apply below_drewN | apply below_al))))).mono ?_; rintro e w3 ⟨rfl, hb⟩; replace HI := HI.go2 (by repeat (first | exact Below.refl _ _ | apply Below.drew | apply below_drewN | apply below_al)) hb; clear hb)
    go_ret2
    exact ⟨rfl, PR.b (HI.go (by repeat (first | exact Below.refl _ _ | apply Below.drew | apply below_drewN | apply below_al)))⟩
set_option maxHeartbeats 2000000 in
theorem backward_any (ex : Bool) (A B : Option Addr) (c d : Nat) (xs ys : List ByteArray) (r t : Bool) (s : ByteArray) (w : World) (h : RT w A c xs) (k : RT w B d ys) (hm : ML w) (hsx : ∀ x ∈ xs, x.size ≤ 5000) (hsy : ∀ x ∈ ys, x.size ≤ 5000) (hs : s.size ≤ 5000) :
    Calls Tryd.prog 18 #[ruV ex A c xs r B d ys t, .string s] w (RetSB w (fwdT ys t xs r s) (fwdO ys t xs r s)) := by
  have HC := Lib.hid (fun w h k m => ruleCheck_any ex A B c d xs ys r t w h k m hsx hsy)
  have HTR := Lib.hid (fun w k h m => translate_any B A d c ys xs t r s w h k m hsy hsx hs)
  have HI := PR.enter h k hm ex r t 26
  unfold ruV at HC ⊢
  have hx1 := h.1
  have hx2 := h.2.1
  have hy1 := k.1
  have hy2 := k.2.1
  clear h k hm hsx hsy hs
  by_cases h0 : ruleE xs r ys t = 0
  · have e1 : (fwdO ys t xs r s) = trO ys t xs r s := by unfold fwdO; rw [ruleE_turn.1 h0]; rfl
    have e2 : (fwdT ys t xs r s) = trT ys t xs r s := by unfold fwdT; rw [if_pos (ruleE_turn.1 h0)]
    rw [e1, e2]
    clear e1 e2
    rw [h0] at HC
    clear h0
    generalize trO ys t xs r s = O at *
    generalize trT ys t xs r s = T at *
    go_enter Tryd.func18, Tryd.ntmps18
    go_wp2_with (first
      | (go_at_call 21; refine (HC.out _ (PR.x (HI.go (by repeat (first | exact Below.refl _ _ | apply Below.drew | apply below_drewN | apply below_al)))) (PR.y (HI.go (by repeat (first | exact Below.refl _ _ | apply Below.drew | apply below_drewN | apply below_al)))) (PR.m (HI.go (by repeat (first | exact Below.refl _ _ | apply Below.drew | apply below_drewN | apply below_al))))).mono ?_; rintro e w3 ⟨rfl, hb⟩; replace HI := HI.go2 (by repeat (first | exact Below.refl _ _ | apply Below.drew | apply below_drewN | apply below_al)) hb; clear hb; obtain ⟨p1, p2, p3, p4, p5, p6⟩ := PR.cells HI)
      | (go_at_call 35; refine (HTR.out _ (PR.x (HI.go (by repeat (first | exact Below.refl _ _ | apply Below.drew | apply below_drewN | apply below_al)))) (PR.y (HI.go (by repeat (first | exact Below.refl _ _ | apply Below.drew | apply below_drewN | apply below_al)))) (PR.m (HI.go (by repeat (first | exact Below.refl _ _ | apply Below.drew | apply below_drewN | apply below_al))))).mono ?_; rintro e w4 ⟨rfl, hb⟩; replace HI := HI.go2 (by repeat (first | exact Below.refl _ _ | apply Below.drew | apply below_drewN | apply below_al)) hb; clear hb))
    go_ret2
    exact ⟨rfl, PR.b (HI.go (by repeat (first | exact Below.refl _ _ | apply Below.drew | apply below_drewN | apply below_al)))⟩
  · have e1 : (fwdO ys t xs r s) = false := by unfold fwdO; rw [beq_eq_false_iff_ne.2 (fun h => h0 (ruleE_turn.1 h))]; rfl
    have e2 : (fwdT ys t xs r s) = ⟨#[]⟩ := by unfold fwdT; rw [if_neg (fun h => h0 (ruleE_turn.1 h))]
    rw [e1, e2]
    clear e1 e2
    have hnB : (ruleE xs r ys t != 0) = true := by rw [bne_iff_ne]; exact h0
    generalize ruleE xs r ys t = n at *
    clear h0
    go_enter Tryd.func18, Tryd.ntmps18
    go_wp2_with (go_at_call 21; refine (HC.out _ (PR.x (HI.go (by repeat (first | exact Below.refl _ _ | apply Below.drew | apply below_drewN | apply below_al)))) (PR.y (HI.go (by repeat (first | exact Below.refl _ _ | apply Below.drew | apply below_drewN | apply below_al)))) (PR.m (HI.go (by repeat (first | exact Below.refl _ _ | apply Below.drew | apply below_drewN | apply below_al))))).mono ?_; rintro e w3 ⟨rfl, hb⟩; replace HI := HI.go2 (by repeat (first | exact Below.refl _ _ | apply Below.drew | apply below_drewN | apply below_al)) hb; clear hb)
    go_ret2
    exact ⟨rfl, PR.b (HI.go (by repeat (first | exact Below.refl _ _ | apply Below.drew | apply below_drewN | apply below_al)))⟩

set_option maxHeartbeats 2000000 in
theorem rforward_any (ex : Bool) (A B : Option Addr) (c d : Nat) (xs ys : List ByteArray) (r t : Bool) (s : ByteArray) (w : World) (h : RT w A c xs) (k : RT w B d ys) (hm : ML w) (hsx : ∀ x ∈ xs, x.size ≤ 5000) (hsy : ∀ x ∈ ys, x.size ≤ 5000) (hs : s.size ≤ 5000) :
    Calls Tryd.prog 17 #[ruV ex A c xs r B d ys t, .string s] w (RetSB w (fwdT xs r ys t s) (fwdO xs r ys t s)) := by
  have HC := Lib.hid (fun w h k m => rruleCheck_any ex A B c d xs ys r t w h k m hsx hsy)
  have HI := PR.enter h k hm ex r t 26
  have HMA := Lib.hid (fun w h m => (rmatch_any A c xs r s w h (five9 hsx) hs m).mono fun _ _ h => mx_two h)
  have HFI := Lib.hid (fun D e w h k m => rfill_any B D d e ys (mxB xs r s) t w h k m hsy (mxB_size hs))
  unfold ruV at HC ⊢
  have hx1 := h.1
  have hx2 := h.2.1
  have hy1 := k.1
  have hy2 := k.2.1
  clear h k hm hsx hsy hs
  by_cases h0 : ruleE xs r ys t = 0
  · have HT : Hid (fwdT xs r ys t s = if matchOk mpOk xs r s = true then fillT ys t (mxB xs r s) else ⟨#[]⟩) := Lib.hid (by unfold fwdT trT; rw [if_pos h0])
    have HO : Hid (fwdO xs r ys t s = (matchOk mpOk xs r s && (fillE ys t (mxB xs r s) == 0))) := Lib.hid (by unfold fwdO trO; rw [h0]; rfl)
    rw [h0] at HC
    clear h0
    generalize fwdT xs r ys t s = T at *
    generalize fwdO xs r ys t s = O at *
    generalize mxB xs r s = cs at *
    generalize fillE ys t cs = n at *
    generalize fillT ys t cs = q at *
    cases ho : matchOk mpOk xs r s with
    | false =>
      rw [ho] at HMA HT HO
      simp only [Bool.false_and, Bool.false_eq_true, if_false] at HO HT
      rw [HO.out, HT.out]
      clear ho
      go_enter Tryd.func17, Tryd.ntmps17
      go_wp2_with (first
        | (go_at_call 22; refine (HC.out _ (PR.x (HI.go (by repeat (first | exact Below.refl _ _ | apply Below.drew | apply below_drewN | apply below_al)))) (PR.y (HI.go (by repeat (first | exact Below.refl _ _ | apply Below.drew | apply below_drewN | apply below_al)))) (PR.m (HI.go (by repeat (first | exact Below.refl _ _ | apply Below.drew | apply below_drewN | apply below_al))))).mono ?_; rintro e w3 ⟨rfl, hb⟩; replace HI := HI.go2 (by repeat (first | exact Below.refl _ _ | apply Below.drew | apply below_drewN | apply below_al)) hb; clear hb; obtain ⟨p1, p2, p3, p4, p5, p6⟩ := PR.cells HI)
        | (go_at_call 36; refine (HMA.out _ (PR.x (HI.go (by repeat (first | exact Below.refl _ _ | apply Below.drew | apply below_drewN | apply below_al)))) (PR.m (HI.go (by repeat (first | exact Below.refl _ _ | apply Below.drew | apply below_drewN | apply below_al))))).mono ?_; rintro e w3 ⟨D, m, rfl, hr, hb⟩; replace HI := HI.go2 (by repeat (first | exact Below.refl _ _ | apply Below.drew | apply below_drewN | apply below_al)) hb; clear hb; clear hr))
      go_ret2
      exact ⟨rfl, PR.b (HI.go (by repeat (first | exact Below.refl _ _ | apply Below.drew | apply below_drewN | apply below_al)))⟩
    | true =>
      rw [ho] at HMA HT HO
      simp only [Bool.true_and, if_true] at HO HT
      rw [HO.out, HT.out]
      clear ho
      go_enter Tryd.func17, Tryd.ntmps17
      go_wp2_with (first
        | (go_at_call 22; refine (HC.out _ (PR.x (HI.go (by repeat (first | exact Below.refl _ _ | apply Below.drew | apply below_drewN | apply below_al)))) (PR.y (HI.go (by repeat (first | exact Below.refl _ _ | apply Below.drew | apply below_drewN | apply below_al)))) (PR.m (HI.go (by repeat (first | exact Below.refl _ _ | apply Below.drew | apply below_drewN | apply below_al))))).mono ?_; rintro e w3 ⟨rfl, hb⟩; replace HI := HI.go2 (by repeat (first | exact Below.refl _ _ | apply Below.drew | apply below_drewN | apply below_al)) hb; clear hb; obtain ⟨p1, p2, p3, p4, p5, p6⟩ := PR.cells HI)
        | (go_at_call 36; refine (HMA.out _ (PR.x (HI.go (by repeat (first | exact Below.refl _ _ | apply Below.drew | apply below_drewN | apply below_al)))) (PR.m (HI.go (by repeat (first | exact Below.refl _ _ | apply Below.drew | apply below_drewN | apply below_al))))).mono ?_; rintro e w3 ⟨D, m, rfl, hr, hb⟩; replace HI := HI.go2 (by repeat (first | exact Below.refl _ _ | apply Below.drew | apply below_drewN | apply below_al)) hb; clear hb; have HR : At (fun w => RT w D m cs) w3 := ⟨kept_rt _ _ _, hr⟩; have hr1 := hr.1; have hr2 := hr.2.1; clear hr; obtain ⟨p1, p2, p3, p4, p5, p6⟩ := PR.cells HI)
        | (go_at_call 37; refine (HFI.out _ _ _ (PR.y (HI.go (by repeat (first | exact Below.refl _ _ | apply Below.drew | apply below_drewN | apply below_al)))) (HR.go (by repeat (first | exact Below.refl _ _ | apply Below.drew | apply below_drewN | apply below_al))).out (PR.m (HI.go (by repeat (first | exact Below.refl _ _ | apply Below.drew | apply below_drewN | apply below_al))))).mono ?_; rintro e w4 ⟨rfl, hb⟩; replace HI := HI.go2 (by repeat (first | exact Below.refl _ _ | apply Below.drew | apply below_drewN | apply below_al)) hb; clear hb))
      go_ret2
      exact ⟨rfl, PR.b (HI.go (by repeat (first | exact Below.refl _ _ | apply Below.drew | apply below_drewN | apply below_al)))⟩
  · have e1 : fwdO xs r ys t s = false := by unfold fwdO; rw [beq_eq_false_iff_ne.2 h0]; rfl
    have e2 : fwdT xs r ys t s = ⟨#[]⟩ := by unfold fwdT; rw [if_neg h0]
    rw [e1, e2]
    clear e1 e2
    have hnB : (ruleE xs r ys t != 0) = true := by rw [bne_iff_ne]; exact h0
    generalize ruleE xs r ys t = n at *
    clear h0
    go_enter Tryd.func17, Tryd.ntmps17
    go_wp2_with (go_at_call 22; refine (HC.out _ (PR.x (HI.go (by repeat (first | exact Below.refl _ _ | apply Below.drew | apply below_drewN | apply below_al)))) (PR.y (HI.go (by repeat (first | exact Below.refl _ _ | apply Below.drew | apply below_drewN | apply below_al)))) (PR.m (HI.go (by repeat (first | exact Below.refl _ _ | apply Below.drew | apply below_drewN | apply below_al))))).mono ?_; rintro e w3 ⟨rfl, hb⟩; replace HI := HI.go2 (by repeat (first | exact Below.refl _ _ | apply Below.drew | apply below_drewN | apply below_al)) hb; clear hb)
    go_ret2
    exact ⟨rfl, PR.b (HI.go (by repeat (first | exact Below.refl _ _ | apply Below.drew | apply below_drewN | apply below_al)))⟩
end Go.Proofs.YtidjmbmnfnnleaaDoor

/-
  Rules: copies, exchanged sides, and the words of the statements.
-/
namespace Go.Proofs.YtidjmbmnfnnleaaDoor
set_option linter.unusedSimpArgs false
set_option linter.unusedVariables false
open Go.RowKit
open Pm

/-- a call hands back a slice of texts -/
def RetC1 (w : World) (xs : List ByteArray) (e : Ending) (w' : World) : Prop := ∃ B d, e = .returned (.slice B xs.length d) ∧ RT w' B d xs ∧ Below w.heap.size w w'
set_option maxHeartbeats 1000000 in
theorem clone_all (A : Option Addr) (c : Nat) (xs : List ByteArray) (w : World) (h : RT w A c xs) (hl : xs.length ≤ 100000) :
    Calls Tryd.prog 62 #[.slice A xs.length c] w (RetC1 w xs) := by
  have h1 := h.1
  have h2 := h.2.1
  cases A with
  | none =>
    have hx : xs = [] := by
      rcases Nat.eq_zero_or_pos xs.length with h0 | h0
      · exact List.eq_nil_of_length_eq_zero h0
      · obtain ⟨b, o, e, _⟩ := h.2.2 h0
        cases e
    subst hx
    clear h
    have hq := fun (W : World) => Lib.run_eql_slice_nil (P := Tryd.prog) W 22 9 none 0 c 0 0 Tryd.underlying22
    simp only [List.length_nil]
    go_enter Tryd.func62, Tryd.ntmps62
    go_wp2_with fail
    go_ret
    exact ⟨none, 0, rfl, RT.nil _ _ _ (by omega), Below.refl _ _⟩
  | some a =>
    have HX := Lib.hid h
    clear h
    have hq := fun (W : World) => Lib.run_eql_slice_nil (P := Tryd.prog) W 22 9 (some a) xs.length c 0 0 Tryd.underlying22
    go_enter Tryd.func62, Tryd.ntmps62
    go_wp2_with (at_builtin; (refine wpList_append_texts rfl _ _ rfl w.heap.size _ [] xs _ c rfl rfl (OT.made w _ (Nat.le_refl _)) (HX.out.below (below_alloc _ _)) (by simp; omega) (by simp) ?_; intro v1 w3 hown hg _; have HBL := Lib.hid ((below_alloc w _).grown hg (by simp) (fun k hk => by cases hk; exact Nat.le_refl _)); rw [List.nil_append] at hown; obtain ⟨B, d, rfl, hrt⟩ := hown.read; have HRT := Lib.hid hrt; clear hown hg hrt))
    go_ret
    exact ⟨B, d, rfl, HRT.out, HBL.out⟩

/-- a call hands back a pattern -/
def RetP1 (w : World) (xs : List ByteArray) (r : Bool) (e : Ending) (w' : World) : Prop := ∃ B d, e = .returned (.agg #[.slice B xs.length d, .bool r]) ∧ RT w' B d xs ∧ Below w.heap.size w w'
/-- a pattern in a box, and the box of the result -/
def PV (W : World) (A : Option Addr) (c : Nat) (xs : List ByteArray) (r : Bool) (w : World) : Prop :=
  PX w W.heap.size (.slice A xs.length c) (.bool r) ∧ PX w (W.heap.size + 1) (.slice none 0 0) (.bool false) ∧ RT w A c xs ∧ Below W.heap.size W w
theorem PV.kept (W : World) (A : Option Addr) (c : Nat) (xs : List ByteArray) (r : Bool) : Kept (PV W A c xs r) :=
  (kept_px _ _ _).both ((kept_px _ _ _).both ((kept_rt _ _ _).both (kept_below _)))
theorem PV.enter {W : World} {A : Option Addr} {c : Nat} {xs : List ByteArray} (h : RT W A c xs) (r : Bool) (T : TypeId) :
    At (PV W A c xs r) ((W.alloc (.cells #[.slice A xs.length c, .bool r] T)).alloc (.cells #[.slice none 0 0, .bool false] T)) :=
  ⟨PV.kept _ _ _ _ _, PX.fst W _ _ _ _ _, PX.snd W _ _ _ _ _, (h.below (below_alloc _ _)).below (below_alloc _ _), by repeat (first | exact Below.refl _ _ | apply Below.drew | apply below_drewN | apply below_al)⟩
theorem PV.cells {W : World} {A : Option Addr} {c : Nat} {xs : List ByteArray} {r : Bool} {w : World} (h : At (PV W A c xs r) w) : w.cell? ⟨W.heap.size, 0, none⟩ = some (.slice A xs.length c) ∧ w.cell? ⟨W.heap.size, 1, none⟩ = some (.bool r) := ⟨h.out.1.1, h.out.1.2.1⟩
theorem PV.res {W : World} {A : Option Addr} {c : Nat} {xs : List ByteArray} {r : Bool} {w : World} (h : At (PV W A c xs r) w) : PX w (W.heap.size + 1) (.slice none 0 0) (.bool false) := h.out.2.1
theorem PV.x {W : World} {A : Option Addr} {c : Nat} {xs : List ByteArray} {r : Bool} {w : World} (h : At (PV W A c xs r) w) : RT w A c xs := h.out.2.2.1
theorem PV.b {W : World} {A : Option Addr} {c : Nat} {xs : List ByteArray} {r : Bool} {w : World} (h : At (PV W A c xs r) w) : Below W.heap.size W w := h.out.2.2.2

set_option maxHeartbeats 2000000 in
theorem pcopy_any (A : Option Addr) (c : Nat) (xs : List ByteArray) (r : Bool) (w : World) (h : RT w A c xs) (hl : xs.length ≤ 100000) :
    Calls Tryd.prog 39 #[.agg #[.slice A xs.length c, .bool r]] w (RetP1 w xs r) := by
  have HI := PV.enter h r 24
  have HCL := Lib.hid (fun w h => clone_all A c xs w h hl)
  have h1 := h.1
  have h2 := h.2.1
  clear h
  have HR := Lib.hid True.intro
  go_enter Tryd.func39, Tryd.ntmps39
  go_wp2_with fail
  go_region_held3 (fun w' => w'.cell? ⟨w.heap.size, 0, none⟩ = some (.slice A xs.length c) ∧ w'.cell? ⟨w.heap.size, 1, none⟩ = some (.bool r))
    (first | (refine PV.cells (HI.go ?_) <;> (repeat (first | exact Below.refl _ _ | apply Below.drew | apply below_drewN | apply below_al)) <;> done) | go_keep)
    ((go_at_call 62; refine (HCL.out _ (PV.x (HI.go (by repeat (first | exact Below.refl _ _ | apply Below.drew | apply below_drewN | apply below_al))))).mono ?_; rintro e w3 ⟨B, d, rfl, hr, hb⟩; replace HI := HI.go2 (by repeat (first | exact Below.refl _ _ | apply Below.drew | apply below_drewN | apply below_al)) hb; have HRT := Lib.hid hr; obtain ⟨q1, q2, q3, q4, q5⟩ := PV.res HI; obtain ⟨a1, a2⟩ := PV.cells HI; clear hr hb))
  all_goals go_wp2_with fail
  all_goals
    refine bodyPost_ret (v := .agg #[.slice B xs.length d, .bool r]) (by simp [results, Tryd.results39, go_sem, q1, q2, q3, q4]) rfl ⟨B, d, rfl, HRT.out.box (PV.res HI) (slice_ns _ _ _) (bool_ns _) _ _, below_box (PV.b HI) (by omega) _ _⟩

set_option maxHeartbeats 1000000 in
theorem rcopy_any (A : Option Addr) (c : Nat) (xs : List ByteArray) (r : Bool) (w : World) (h : RT w A c xs) (hlen : xs.length ≤ 100000) :
    Calls Tryd.prog 38 #[.agg #[.slice A xs.length c, .bool r]] w (RetP1 w xs r) := by
  have h1 := h.1
  have h2 := h.2.1
  have HX := Lib.hid h
  clear h
  go_enter Tryd.func38, Tryd.ntmps38
  go_wp2_with fail
  go_region_law (refine step_append_texts rfl _ _ rfl (w.heap.size + 2) (.slice none 0 0) [] xs A c rfl rfl (OT.nil _ _) (HX.out.below (below_alloc2 _ _ _).drew) (by simp; omega) (by simp) ?_; intro v1 w1 hown hg _; have hbg := (Below.refl _ _).grown hg (Nat.le_refl _) (by intro k h; simp [Value.ownBlock] at h); have P1 := Lib.hid (((PX.new w (.slice A xs.length c) (.bool r) _).below (below_alloc _ (.cells #[.slice none 0 0, .bool false] 24))).below ((Below.refl _ _).drew.trans hbg)); have P2 : Hid (PX w1 (w.heap.size + 1) (.slice none 0 0) (.bool false)) := Lib.hid (by have := ((PX.new (w.alloc (.cells #[.slice A xs.length c, .bool r] 24)) (.slice none 0 0) (.bool false) _).below ((Below.refl _ _).drew.trans hbg)); simpa using this); have HB := Lib.hid ((below_alloc2 w _ _).drew.trans (hbg.mono (by simp; omega))); clear hg hbg; rw [List.nil_append] at hown; obtain ⟨B, d, rfl, hrt⟩ := hown.read; have HRT := Lib.hid hrt; clear hrt hown; obtain ⟨p1, p2, p3, p4, p5⟩ := P1.out; obtain ⟨q1, q2, q3, q4, q5⟩ := P2.out)
  all_goals go_wp2_with fail
  all_goals
    refine bodyPost_ret (v := .agg #[.slice B xs.length d, .bool r]) (by simp [results, Tryd.results38, go_sem, q1, q2, q3, q4]) rfl ⟨B, d, rfl, HRT.out.box P2.out (slice_ns _ _ _) (bool_ns _) _ _, below_box HB.out (by omega) _ _⟩

/-- five cells that may be written -/
def F5 (w : World) (g : Nat) : Prop := w.frozen? ⟨g, 0, none⟩ = false ∧ w.frozen? ⟨g, 1, none⟩ = false ∧ w.frozen? ⟨g, 2, none⟩ = false ∧ w.frozen? ⟨g, 3, none⟩ = false ∧ w.frozen? ⟨g, 4, none⟩ = false ∧ g < w.heap.size
theorem kept_f5 (g : Nat) : Kept (fun w => F5 w g) := fun w w' h hb =>
  ⟨(hb.frozen (p := ⟨g, 0, none⟩) h.2.2.2.2.2).trans h.1, (hb.frozen (p := ⟨g, 1, none⟩) h.2.2.2.2.2).trans h.2.1, (hb.frozen (p := ⟨g, 2, none⟩) h.2.2.2.2.2).trans h.2.2.1, (hb.frozen (p := ⟨g, 3, none⟩) h.2.2.2.2.2).trans h.2.2.2.1, (hb.frozen (p := ⟨g, 4, none⟩) h.2.2.2.2.2).trans h.2.2.2.2.1, Nat.lt_of_lt_of_le h.2.2.2.2.2 hb.size⟩
theorem F5.new (w : World) (u0 u1 u2 u3 u4 : Value) (T : TypeId) : F5 (w.alloc (.cells #[u0, u1, u2, u3, u4] T)) w.heap.size :=
  ⟨by simp [World.frozen?_alloc_new], by simp [World.frozen?_alloc_new], by simp [World.frozen?_alloc_new], by simp [World.frozen?_alloc_new], by simp [World.frozen?_alloc_new], by simp⟩
theorem P5.snd (w : World) (o : Obj) (u0 u1 u2 u3 u4 : Value) (T : TypeId) : P5 ((w.alloc o).alloc (.cells #[u0, u1, u2, u3, u4] T)) (w.heap.size + 1) u0 u1 u2 u3 u4 := by
  have := P5.new (w.alloc o) u0 u1 u2 u3 u4 T
  simpa using this
theorem F5.snd (w : World) (o : Obj) (u0 u1 u2 u3 u4 : Value) (T : TypeId) : F5 ((w.alloc o).alloc (.cells #[u0, u1, u2, u3, u4] T)) (w.heap.size + 1) := by
  have := F5.new (w.alloc o) u0 u1 u2 u3 u4 T
  simpa using this
def set5 (w : World) (g : Nat) (a b c d e : Value) : World := ((((w.setCell ⟨g, 0, none⟩ a).setCell ⟨g, 1, none⟩ b).setCell ⟨g, 2, none⟩ c).setCell ⟨g, 3, none⟩ d).setCell ⟨g, 4, none⟩ e
theorem RT.set5 {w : World} {A : Option Addr} {n g : Nat} {xs : List ByteArray} {u0 u1 u2 u3 u4 : Value} (h : RT w A n xs) (hp : P5 w g u0 u1 u2 u3 u4) (h0 : ∀ x, u0 ≠ .string x) (h1 : ∀ x, u1 ≠ .string x) (h2 : ∀ x, u2 ≠ .string x) (h3 : ∀ x, u3 ≠ .string x) (h4 : ∀ x, u4 ≠ .string x) (a b c d e : Value) : RT (set5 w g a b c d e) A n xs := by
  have ne : ∀ (W : World) (i j : Nat) (v : Value), i ≠ j → (W.setCell ⟨g, i, none⟩ v).cell? ⟨g, j, none⟩ = W.cell? ⟨g, j, none⟩ := fun W i j v hij => World.cell?_setCell_other _ _ _ _ (by simp [hij.symm])
  unfold Proofs.YtidjmbmnfnnleaaDoor.set5
  refine RT.setCell (RT.setCell (RT.setCell (RT.setCell (RT.setCell h hp.1 h0 a) ?_ h1 b) ?_ h2 c) ?_ h3 d) ?_ h4 e
  · rw [ne _ _ _ _ (by decide)]; exact hp.2.1
  · rw [ne _ _ _ _ (by decide), ne _ _ _ _ (by decide)]; exact hp.2.2.1
  · rw [ne _ _ _ _ (by decide), ne _ _ _ _ (by decide), ne _ _ _ _ (by decide)]; exact hp.2.2.2.1
  · rw [ne _ _ _ _ (by decide), ne _ _ _ _ (by decide), ne _ _ _ _ (by decide), ne _ _ _ _ (by decide)]; exact hp.2.2.2.2.1
theorem below_set5 {B g : Nat} {w w' : World} (h : Below B w w') (hg : B ≤ g) (a b c d e : Value) : Below B w (set5 w' g a b c d e) :=
  ((((h.setCell (p := ⟨g, 0, none⟩) hg a).setCell (p := ⟨g, 1, none⟩) hg b).setCell (p := ⟨g, 2, none⟩) hg c).setCell (p := ⟨g, 3, none⟩) hg d).setCell (p := ⟨g, 4, none⟩) hg e

/-- a rule in a box, and the box of the result -/
def PT (W : World) (ex : Bool) (A : Option Addr) (c : Nat) (xs : List ByteArray) (r : Bool) (B : Option Addr) (d : Nat) (ys : List ByteArray) (t : Bool) (w : World) : Prop :=
  P5 w (W.heap.size + 1) (.bool false) (.slice none 0 0) (.bool false) (.slice none 0 0) (.bool false) ∧ F5 w (W.heap.size + 1) ∧ PR W ex A c xs r B d ys t w
theorem PT.kept (W : World) (ex : Bool) (A : Option Addr) (c : Nat) (xs : List ByteArray) (r : Bool) (B : Option Addr) (d : Nat) (ys : List ByteArray) (t : Bool) : Kept (PT W ex A c xs r B d ys t) :=
  (kept_p5 _ _ _ _ _ _).both ((kept_f5 _).both (PR.kept _ _ _ _ _ _ _ _ _ _))
theorem PT.enter {W : World} {A : Option Addr} {c : Nat} {xs : List ByteArray} {B : Option Addr} {d : Nat} {ys : List ByteArray} (h : RT W A c xs) (k : RT W B d ys) (m : ML W) (ex r t : Bool) (T : TypeId) :
    At (PT W ex A c xs r B d ys t) ((W.alloc (.cells #[.bool ex, .slice A xs.length c, .bool r, .slice B ys.length d, .bool t] T)).alloc (.cells #[.bool false, .slice none 0 0, .bool false, .slice none 0 0, .bool false] T)) :=
  ⟨PT.kept _ _ _ _ _ _ _ _ _ _, P5.snd _ _ _ _ _ _ _ _, F5.snd _ _ _ _ _ _ _ _, ((PR.enter h k m ex r t T).go (below_alloc _ _)).out⟩
theorem PT.pr {W : World} {ex : Bool} {A : Option Addr} {c : Nat} {xs : List ByteArray} {r : Bool} {B : Option Addr} {d : Nat} {ys : List ByteArray} {t : Bool} {w : World} (h : At (PT W ex A c xs r B d ys t) w) : At (PR W ex A c xs r B d ys t) w := ⟨PR.kept _ _ _ _ _ _ _ _ _ _, h.out.2.2⟩
theorem PT.cells {W : World} {ex : Bool} {A : Option Addr} {c : Nat} {xs : List ByteArray} {r : Bool} {B : Option Addr} {d : Nat} {ys : List ByteArray} {t : Bool} {w : World} (h : At (PT W ex A c xs r B d ys t) w) :
    w.cell? ⟨W.heap.size, 0, none⟩ = some (.bool ex) ∧ w.cell? ⟨W.heap.size, 1, none⟩ = some (.slice A xs.length c) ∧ w.cell? ⟨W.heap.size, 2, none⟩ = some (.bool r) ∧ w.cell? ⟨W.heap.size, 3, none⟩ = some (.slice B ys.length d) ∧ w.cell? ⟨W.heap.size, 4, none⟩ = some (.bool t) :=
  ⟨h.out.2.2.1.1, h.out.2.2.1.2.1, h.out.2.2.1.2.2.1, h.out.2.2.1.2.2.2.1, h.out.2.2.1.2.2.2.2.1⟩
/-- a call hands back a rule -/
def RetR (w : World) (ex : Bool) (xs : List ByteArray) (r : Bool) (ys : List ByteArray) (t : Bool) (e : Ending) (w' : World) : Prop :=
  ∃ A c B d, e = .returned (ruV ex A c xs r B d ys t) ∧ RT w' A c xs ∧ RT w' B d ys ∧ Below w.heap.size w w'

set_option maxHeartbeats 4000000 in
theorem turn_any (ex : Bool) (A B : Option Addr) (c d : Nat) (xs ys : List ByteArray) (r t : Bool) (w : World) (h : RT w A c xs) (k : RT w B d ys) (hm : ML w) (hlx : xs.length ≤ 100000) (hly : ys.length ≤ 100000) :
    Calls Tryd.prog 20 #[ruV ex A c xs r B d ys t] w (RetR w ex ys t xs r) := by
  have HI := PT.enter h k hm ex r t 26
  have HCP := Lib.hid (fun A c xs r w h hl => pcopy_any A c xs r w h hl)
  unfold ruV
  have hx1 := h.1
  have hx2 := h.2.1
  have hy1 := k.1
  have hy2 := k.2.1
  clear h k hm
  have tok1 : True := trivial
  go_enter Tryd.func20, Tryd.ntmps20
  go_wp2_with fail
  go_region_held3 (fun w' => (w'.cell? ⟨w.heap.size, 0, none⟩ = some (.bool ex) ∧ w'.cell? ⟨w.heap.size, 1, none⟩ = some (.slice A xs.length c) ∧ w'.cell? ⟨w.heap.size, 2, none⟩ = some (.bool r) ∧ w'.cell? ⟨w.heap.size, 3, none⟩ = some (.slice B ys.length d) ∧ w'.cell? ⟨w.heap.size, 4, none⟩ = some (.bool t)))
    (first | (refine PT.cells (HI.go ?_) <;> (repeat (first | exact Below.refl _ _ | apply Below.drew | apply below_drewN | apply below_al)) <;> done) | go_keep)
    (first
      | (go_at_call 39; have _t := tok1; refine (HCP.out _ _ _ _ _ (by first | exact PR.x (PT.pr (HI.go (by repeat (first | exact Below.refl _ _ | apply Below.drew | apply below_drewN | apply below_al)))) | exact PR.y (PT.pr (HI.go (by repeat (first | exact Below.refl _ _ | apply Below.drew | apply below_drewN | apply below_al))))) (by first | exact hlx | exact hly)).mono ?_; rintro e w3 ⟨B1, d1, rfl, hr, hb⟩; replace HI := HI.go2 (by repeat (first | exact Below.refl _ _ | apply Below.drew | apply below_drewN | apply below_al)) hb; have HR1 := Lib.hid hr; clear tok1 _t hr hb)
      | (go_at_call 39; refine (HCP.out _ _ _ _ _ (by first | exact PR.x (PT.pr (HI.go (by repeat (first | exact Below.refl _ _ | apply Below.drew | apply below_drewN | apply below_al)))) | exact PR.y (PT.pr (HI.go (by repeat (first | exact Below.refl _ _ | apply Below.drew | apply below_drewN | apply below_al))))) (by first | exact hlx | exact hly)).mono ?_; rintro e w4 ⟨B2, d2, rfl, hr, hb⟩; replace HI := HI.go2 (by repeat (first | exact Below.refl _ _ | apply Below.drew | apply below_drewN | apply below_al)) hb; have HR2 := Lib.hid hr; have HR3 := Lib.hid (HR1.out.below (below_two (by repeat (first | exact Below.refl _ _ | apply Below.drew | apply below_drewN | apply below_al)) hb)); have HP := Lib.hid HI.out.1; have HF := Lib.hid HI.out.2.1; obtain ⟨p0, p1, p2, p3, p4, p5⟩ := HP.out; obtain ⟨f0, f1, f2, f3, f4, f5⟩ := HF.out; obtain ⟨a0, a1, a2, a3, a4⟩ := PT.cells HI; clear hr hb))
  all_goals go_wp2_with fail
  all_goals
    first
    | (refine bodyPost_ret (v := .agg #[.bool ex, .slice B1 ys.length d1, .bool t, .slice B2 xs.length d2, .bool r]) (by simp [results, Tryd.results20, go_sem, p0, p1, p2, p3, p4, f0, f1, f2, f3, f4]) rfl ⟨B1, d1, B2, d2, rfl, HR3.out.set5 HP.out (bool_ns _) (slice_ns _ _ _) (bool_ns _) (slice_ns _ _ _) (bool_ns _) _ _ _ _ _, HR2.out.set5 HP.out (bool_ns _) (slice_ns _ _ _) (bool_ns _) (slice_ns _ _ _) (bool_ns _) _ _ _ _ _, below_set5 (PR.b (PT.pr HI)) (by omega) _ _ _ _ _⟩)
    | (refine bodyPost_ret (v := .agg #[.bool ex, .slice B2 ys.length d2, .bool t, .slice B1 xs.length d1, .bool r]) (by simp [results, Tryd.results20, go_sem, p0, p1, p2, p3, p4, f0, f1, f2, f3, f4]) rfl ⟨B2, d2, B1, d1, rfl, HR2.out.set5 HP.out (bool_ns _) (slice_ns _ _ _) (bool_ns _) (slice_ns _ _ _) (bool_ns _) _ _ _ _ _, HR3.out.set5 HP.out (bool_ns _) (slice_ns _ _ _) (bool_ns _) (slice_ns _ _ _) (bool_ns _) _ _ _ _ _, below_set5 (PR.b (PT.pr HI)) (by omega) _ _ _ _ _⟩)
set_option maxHeartbeats 4000000 in
theorem rturn_any (ex : Bool) (A B : Option Addr) (c d : Nat) (xs ys : List ByteArray) (r t : Bool) (w : World) (h : RT w A c xs) (k : RT w B d ys) (hm : ML w) (hlx : xs.length ≤ 100000) (hly : ys.length ≤ 100000) :
    Calls Tryd.prog 19 #[ruV ex A c xs r B d ys t] w (RetR w ex ys t xs r) := by
  have HI := PT.enter h k hm ex r t 26
  have HCP := Lib.hid (fun A c xs r w h hl => rcopy_any A c xs r w h hl)
  unfold ruV
  have hx1 := h.1
  have hx2 := h.2.1
  have hy1 := k.1
  have hy2 := k.2.1
  clear h k hm
  have tok1 : True := trivial
  go_enter Tryd.func19, Tryd.ntmps19
  go_wp2_with fail
  go_region_held3 (fun w' => (w'.cell? ⟨w.heap.size, 0, none⟩ = some (.bool ex) ∧ w'.cell? ⟨w.heap.size, 1, none⟩ = some (.slice A xs.length c) ∧ w'.cell? ⟨w.heap.size, 2, none⟩ = some (.bool r) ∧ w'.cell? ⟨w.heap.size, 3, none⟩ = some (.slice B ys.length d) ∧ w'.cell? ⟨w.heap.size, 4, none⟩ = some (.bool t)))
    (first | (refine PT.cells (HI.go ?_) <;> (repeat (first | exact Below.refl _ _ | apply Below.drew | apply below_drewN | apply below_al)) <;> done) | go_keep)
    (first
      | (go_at_call 38; have _t := tok1; refine (HCP.out _ _ _ _ _ (by first | exact PR.x (PT.pr (HI.go (by repeat (first | exact Below.refl _ _ | apply Below.drew | apply below_drewN | apply below_al)))) | exact PR.y (PT.pr (HI.go (by repeat (first | exact Below.refl _ _ | apply Below.drew | apply below_drewN | apply below_al))))) (by first | exact hlx | exact hly)).mono ?_; rintro e w3 ⟨B1, d1, rfl, hr, hb⟩; replace HI := HI.go2 (by repeat (first | exact Below.refl _ _ | apply Below.drew | apply below_drewN | apply below_al)) hb; have HR1 := Lib.hid hr; clear tok1 _t hr hb)
      | (go_at_call 38; refine (HCP.out _ _ _ _ _ (by first | exact PR.x (PT.pr (HI.go (by repeat (first | exact Below.refl _ _ | apply Below.drew | apply below_drewN | apply below_al)))) | exact PR.y (PT.pr (HI.go (by repeat (first | exact Below.refl _ _ | apply Below.drew | apply below_drewN | apply below_al))))) (by first | exact hlx | exact hly)).mono ?_; rintro e w4 ⟨B2, d2, rfl, hr, hb⟩; replace HI := HI.go2 (by repeat (first | exact Below.refl _ _ | apply Below.drew | apply below_drewN | apply below_al)) hb; have HR2 := Lib.hid hr; have HR3 := Lib.hid (HR1.out.below (below_two (by repeat (first | exact Below.refl _ _ | apply Below.drew | apply below_drewN | apply below_al)) hb)); have HP := Lib.hid HI.out.1; have HF := Lib.hid HI.out.2.1; obtain ⟨p0, p1, p2, p3, p4, p5⟩ := HP.out; obtain ⟨f0, f1, f2, f3, f4, f5⟩ := HF.out; obtain ⟨a0, a1, a2, a3, a4⟩ := PT.cells HI; clear hr hb))
  all_goals go_wp2_with fail
  all_goals
    first
    | (refine bodyPost_ret (v := .agg #[.bool ex, .slice B1 ys.length d1, .bool t, .slice B2 xs.length d2, .bool r]) (by simp [results, Tryd.results19, go_sem, p0, p1, p2, p3, p4, f0, f1, f2, f3, f4]) rfl ⟨B1, d1, B2, d2, rfl, HR3.out.set5 HP.out (bool_ns _) (slice_ns _ _ _) (bool_ns _) (slice_ns _ _ _) (bool_ns _) _ _ _ _ _, HR2.out.set5 HP.out (bool_ns _) (slice_ns _ _ _) (bool_ns _) (slice_ns _ _ _) (bool_ns _) _ _ _ _ _, below_set5 (PR.b (PT.pr HI)) (by omega) _ _ _ _ _⟩)
    | (refine bodyPost_ret (v := .agg #[.bool ex, .slice B2 ys.length d2, .bool t, .slice B1 xs.length d1, .bool r]) (by simp [results, Tryd.results19, go_sem, p0, p1, p2, p3, p4, f0, f1, f2, f3, f4]) rfl ⟨B2, d2, B1, d1, rfl, HR2.out.set5 HP.out (bool_ns _) (slice_ns _ _ _) (bool_ns _) (slice_ns _ _ _) (bool_ns _) _ _ _ _ _, HR3.out.set5 HP.out (bool_ns _) (slice_ns _ _ _) (bool_ns _) (slice_ns _ _ _) (bool_ns _) _ _ _ _ _, below_set5 (PR.b (PT.pr HI)) (by omega) _ _ _ _ _⟩)
end Go.Proofs.YtidjmbmnfnnleaaDoor

/-
  Rules: the words of the statements: small, fit, awake.
-/
namespace Go.Proofs.YtidjmbmnfnnleaaDoor
set_option linter.unusedSimpArgs false
set_option linter.unusedVariables false
open Go.RowKit
open Pm

def small4B (xs : List ByteArray) : Bool := decide (xs.length ≤ 20) && decide (sumB xs ≤ 300)
theorem small4_yes {xs : List ByteArray} (h : small4B xs = true) : xs.length ≤ 20 ∧ ∀ x ∈ xs, x.size ≤ 5000 := by
  unfold small4B at h
  rw [Bool.and_eq_true, decide_eq_true_iff, decide_eq_true_iff] at h
  refine ⟨h.1, fun x hx => ?_⟩
  have := sum_mem hx
  omega

set_option maxHeartbeats 1000000 in
theorem small4_any (A : Option Addr) (c : Nat) (xs : List ByteArray) (r : Bool) (w : World) (h : RT w A c xs) (hsz : ∀ x ∈ xs, x.size ≤ 140737488351232) :
    Calls Tryd.prog 24 #[.agg #[.slice A xs.length c, .bool r]] w fun e w' => e = .returned (.bool (small4B xs)) ∧ Below w.heap.size w w' := by
  have h1 := h.1
  have h2 := h.2.1
  have HX := Lib.hid h
  have HS := Lib.hid hsz
  clear h hsz
  by_cases h20 : xs.length ≤ 20
  · have HR : Hid (small4B xs = decide (sumB xs ≤ 300)) := Lib.hid (by unfold small4B; rw [decide_eq_true h20, Bool.true_and])
    go_enter Tryd.func24, Tryd.ntmps24
    go_wp2_with fail
    go_loopw [3, 9] (fun n i wr => ∃ k : Nat, k ≤ xs.length ∧ i = .int .i64 k ∧ n = .int .i64 (sumB (xs.take k) : Nat) ∧ sumB (xs.take k) ≤ k * 140737488351232 ∧ Hid (Below w.heap.size w wr) ∧ wr.cell? ⟨w.heap.size, 0, none⟩ = some (.slice A xs.length c)) (fun _ i _ => xs.length - (intOf i).toNat)
    case atStart => exact ⟨0, Nat.zero_le _, rfl, rfl, by simp [sumB], Lib.hid (below_alloc _ _), by simp [World.cell?_alloc_new]⟩
    case round =>
      obtain ⟨k, hk, rfl, rfl, hsum, HBL, hc0⟩ := hrel
      by_cases hlt : k < xs.length
      · obtain ⟨x, hx⟩ : ∃ x, xs[k]? = some x := ⟨_, List.getElem?_eq_getElem hlt⟩
        obtain ⟨b1, o1, rfl, hb1, hc1⟩ := (HX.out.below HBL.out).2.2 (by omega)
        have hcx := hc1 k x hx
        have hxz := HS.out x (List.mem_of_getElem? hx)
        have HST := Lib.hid (sum_step hx)
        clear hc1 hx hb1
        have hbnd : sumB (xs.take k) + x.size ≤ (k + 1) * 140737488351232 := by omega
        generalize hm : sumB (xs.take k) = m at *
        go_wp2_with fail
        go_roundw
        case rel => exact ⟨k + 1, by omega, by go_num, by rw [HST.out]; go_num, by rw [HST.out]; exact hbnd, HBL, hc0⟩
        case measure => simp [intOf]; omega
      · have HE : Hid (sumB (xs.take k) = sumB xs) := Lib.hid (by rw [List.take_of_length_le (by omega)])
        have he := HE.out
        rw [he]
        clear hsum he
        go_wp2_with fail
        go_ret
        exact ⟨ret_bool (by rw [HR.out, Bool.eq_iff_iff]; simp; try omega), HBL.out⟩
  · have HR : Hid (small4B xs = false) := Lib.hid (by unfold small4B; rw [decide_eq_false h20, Bool.false_and])
    go_enter Tryd.func24, Tryd.ntmps24
    go_wp2_with fail
    go_loopw [3, 9] (fun n i wr => ∃ (k : Nat) (v : Int), k ≤ xs.length ∧ i = .int .i64 k ∧ n = .int .i64 v ∧ Hid (Below w.heap.size w wr) ∧ wr.cell? ⟨w.heap.size, 0, none⟩ = some (.slice A xs.length c)) (fun _ i _ => xs.length - (intOf i).toNat)
    case atStart => exact ⟨0, 0, Nat.zero_le _, rfl, rfl, Lib.hid (below_alloc _ _), by simp [World.cell?_alloc_new]⟩
    case round =>
      obtain ⟨k, v, hk, rfl, rfl, HBL, hc0⟩ := hrel
      by_cases hlt : k < xs.length
      · obtain ⟨x, hx⟩ : ∃ x, xs[k]? = some x := ⟨_, List.getElem?_eq_getElem hlt⟩
        obtain ⟨b1, o1, rfl, hb1, hc1⟩ := (HX.out.below HBL.out).2.2 (by omega)
        have hcx := hc1 k x hx
        clear hc1 hx hb1
        go_wp2_with fail
        go_roundw
        case rel => exact ⟨k + 1, _, by omega, by go_num, rfl, HBL, hc0⟩
        case measure => simp [intOf]; omega
      · go_wp2_with fail
        go_ret
        exact ⟨ret_bool HR.out.symm, HBL.out⟩


def fitB (xs ys : List ByteArray) : Bool := small4B xs && small4B ys
set_option maxHeartbeats 1000000 in
theorem fit_any (ex : Bool) (A B : Option Addr) (c d : Nat) (xs ys : List ByteArray) (r t : Bool) (w : World) (h : RT w A c xs) (k : RT w B d ys) (hm : ML w) (hsx : ∀ x ∈ xs, x.size ≤ 140737488351232) (hsy : ∀ x ∈ ys, x.size ≤ 140737488351232) :
    Calls Tryd.prog 14 #[ruV ex A c xs r B d ys t] w fun e w' => e = .returned (.bool (fitB xs ys)) ∧ Below w.heap.size w w' := by
  have HI := PR.enter h k hm ex r t 26
  have HSX := Lib.hid (fun w h => small4_any A c xs r w h hsx)
  have HSY := Lib.hid (fun w h => small4_any B d ys t w h hsy)
  have HF : Hid (fitB xs ys = (small4B xs && small4B ys)) := Lib.hid rfl
  rw [HF.out]
  unfold ruV
  have hx1 := h.1
  have hx2 := h.2.1
  have hy1 := k.1
  have hy2 := k.2.1
  clear h k hm hsx hsy
  generalize small4B xs = s1 at *
  generalize small4B ys = s2 at *
  cases s1 with
  | false =>
    go_enter Tryd.func14, Tryd.ntmps14
    go_wp2_with (go_at_call 24; refine (HSX.out _ (PR.x (HI.go (by repeat (first | exact Below.refl _ _ | apply Below.drew | apply below_drewN | apply below_al))))).mono ?_; rintro e w3 ⟨rfl, hb⟩; replace HI := HI.go2 (by repeat (first | exact Below.refl _ _ | apply Below.drew | apply below_drewN | apply below_al)) hb; clear hb)
    go_ret
    exact ⟨rfl, PR.b (HI.go (by repeat (first | exact Below.refl _ _ | apply Below.drew | apply below_drewN | apply below_al)))⟩
  | true =>
    go_enter Tryd.func14, Tryd.ntmps14
    go_wp2_with (first
      | (go_at_call_of 24 (Value.agg #[.slice A xs.length c, .bool r]); refine (HSX.out _ (PR.x (HI.go (by repeat (first | exact Below.refl _ _ | apply Below.drew | apply below_drewN | apply below_al))))).mono ?_; rintro e w3 ⟨rfl, hb⟩; replace HI := HI.go2 (by repeat (first | exact Below.refl _ _ | apply Below.drew | apply below_drewN | apply below_al)) hb; clear hb; obtain ⟨p1, p2, p3, p4, p5, p6⟩ := PR.cells HI)
      | (go_at_call_of 24 (Value.agg #[.slice B ys.length d, .bool t]); refine (HSY.out _ (PR.y (HI.go (by repeat (first | exact Below.refl _ _ | apply Below.drew | apply below_drewN | apply below_al))))).mono ?_; rintro e w3 ⟨rfl, hb⟩; replace HI := HI.go2 (by repeat (first | exact Below.refl _ _ | apply Below.drew | apply below_drewN | apply below_al)) hb; clear hb))
    go_ret
    exact ⟨rfl, PR.b (HI.go (by repeat (first | exact Below.refl _ _ | apply Below.drew | apply below_drewN | apply below_al)))⟩

/-- the rule and the path of the sanity check -/
def rXs : List ByteArray := [⟨#[100]⟩, ⟨#[42, 46, 112, 115, 100]⟩]
def rYs : List ByteArray := [⟨#[99]⟩, ⟨#[120]⟩, ⟨#[42]⟩]
def rP : ByteArray := ⟨#[47, 47, 100, 47, 97, 46, 112, 115, 100, 47, 98]⟩
theorem r1 : ruleE rXs true rYs true = 0 := by decide +kernel
theorem r2 : fwdO rXs true rYs true rP = true := by decide +kernel
theorem r3 : fwdT rXs true rYs true rP = ⟨#[47, 47, 99, 47, 120, 47, 97, 47, 98]⟩ := by decide +kernel
theorem RT.two {w : World} {x y : ByteArray} {T : TypeId} {g : Nat} (hg : g = w.heap.size) : RT (w.alloc (.cells #[.string x, .string y] T)) (some ⟨g, 0, none⟩) 2 [x, y] := by
  subst hg
  refine ⟨Nat.le_refl _, by omega, fun _ => ⟨_, 0, rfl, by simp, fun j z hz => ?_⟩⟩
  rcases j with _ | _ | j
  · simp at hz; subst hz; simp [World.cell?_alloc_new]
  · simp at hz; subst hz; simp [World.cell?_alloc_new]
  · simp at hz
theorem RT.three {w : World} {x y z : ByteArray} {T : TypeId} {g : Nat} (hg : g = w.heap.size) : RT (w.alloc (.cells #[.string x, .string y, .string z] T)) (some ⟨g, 0, none⟩) 3 [x, y, z] := by
  subst hg
  refine ⟨Nat.le_refl _, by omega, fun _ => ⟨_, 0, rfl, by simp, fun j u hu => ?_⟩⟩
  rcases j with _ | _ | _ | j
  · simp at hu; subst hu; simp [World.cell?_alloc_new]
  · simp at hu; subst hu; simp [World.cell?_alloc_new]
  · simp at hu; subst hu; simp [World.cell?_alloc_new]
  · simp at hu

def PA (W : World) (w : World) : Prop := RT w (some ⟨W.heap.size, 0, none⟩) 2 rXs ∧ RT w (some ⟨W.heap.size + 1, 0, none⟩) 3 rYs ∧ P5 w (W.heap.size + 2) (.bool false) (.slice (some ⟨W.heap.size, 0, none⟩) 2 2) (.bool true) (.slice (some ⟨W.heap.size + 1, 0, none⟩) 3 3) (.bool true) ∧ ML w ∧ Below W.heap.size W w
theorem PA.kept (W : World) : Kept (PA W) := (kept_rt _ _ _).both ((kept_rt _ _ _).both ((kept_p5 _ _ _ _ _ _).both (kept_ml.both (kept_below _))))
theorem PA.enter {W : World} (m : ML W) (T U : TypeId) : At (PA W) (((W.alloc (.cells #[.string ⟨#[100]⟩, .string ⟨#[42, 46, 112, 115, 100]⟩] T)).alloc (.cells #[.string ⟨#[99]⟩, .string ⟨#[120]⟩, .string ⟨#[42]⟩] T)).alloc (.cells #[.bool false, .slice (some ⟨W.heap.size, 0, none⟩) 2 2, .bool true, .slice (some ⟨W.heap.size + 1, 0, none⟩) 3 3, .bool true] U)) := by
  refine ⟨PA.kept W, ((RT.two rfl).below (below_alloc _ _)).below (below_alloc _ _), (RT.three (by simp)).below (below_alloc _ _), ?_, ((m.below (below_alloc _ _)).below (below_alloc _ _)).below (below_alloc _ _), by repeat (first | exact Below.refl _ _ | apply below_al)⟩
  have := P5.new ((W.alloc (.cells #[.string ⟨#[100]⟩, .string ⟨#[42, 46, 112, 115, 100]⟩] T)).alloc (.cells #[.string ⟨#[99]⟩, .string ⟨#[120]⟩, .string ⟨#[42]⟩] T)) (.bool false) (.slice (some ⟨W.heap.size, 0, none⟩) 2 2) (.bool true) (.slice (some ⟨W.heap.size + 1, 0, none⟩) 3 3) (.bool true) U
  simpa using this

set_option maxHeartbeats 1000000 in
theorem rawake_any (w : World) (hm : ML w) :
    Calls Tryd.prog 15 #[] w fun e w' => e = .returned (.bool true) ∧ Below w.heap.size w w' := by
  have HI := PA.enter hm 9 26
  have HF : Hid (∀ A B W, RT W A 2 rXs → RT W B 3 rYs → ML W → Calls Tryd.prog 16 #[.agg #[.bool false, .slice A 2 2, .bool true, .slice B 3 3, .bool true], .string ⟨#[47, 47, 100, 47, 97, 46, 112, 115, 100, 47, 98]⟩] W (RetSB W ⟨#[47, 47, 99, 47, 120, 47, 97, 47, 98]⟩ true)) := Lib.hid (fun A B W h k m => by
    have := forward_any false A B 2 3 rXs rYs true true rP W h k m (by decide) (by decide) (by decide)
    rw [r2, r3] at this
    exact this)
  have HC : Hid (∀ A B W, RT W A 2 rXs → RT W B 3 rYs → ML W → Calls Tryd.prog 21 #[.agg #[.bool false, .slice A 2 2, .bool true, .slice B 3 3, .bool true]] W fun e w' => e = .returned (.int .i64 0) ∧ Below W.heap.size W w') := Lib.hid (fun A B W h k m => by
    have := ruleCheck_any false A B 2 3 rXs rYs true true W h k m (by decide) (by decide)
    rw [r1] at this
    exact this)
  clear hm
  go_enter Tryd.func15, Tryd.ntmps15
  go_wp2_with (first
    | (go_at_call 16; refine (HF.out _ _ _ (HI.go (by repeat (first | exact Below.refl _ _ | apply Below.drew | apply below_drewN | apply below_al))).out.1 (HI.go (by repeat (first | exact Below.refl _ _ | apply Below.drew | apply below_drewN | apply below_al))).out.2.1 (HI.go (by repeat (first | exact Below.refl _ _ | apply Below.drew | apply below_drewN | apply below_al))).out.2.2.2.1).mono ?_; rintro e w3 ⟨rfl, hb⟩; replace HI := HI.go2 (by repeat (first | exact Below.refl _ _ | apply Below.drew | apply below_drewN | apply below_al)) hb; clear hb; obtain ⟨p1, p2, p3, p4, p5, p6⟩ := HI.out.2.2.1)
    | (go_at_call 21; refine (HC.out _ _ _ (HI.go (by repeat (first | exact Below.refl _ _ | apply Below.drew | apply below_drewN | apply below_al))).out.1 (HI.go (by repeat (first | exact Below.refl _ _ | apply Below.drew | apply below_drewN | apply below_al))).out.2.1 (HI.go (by repeat (first | exact Below.refl _ _ | apply Below.drew | apply below_drewN | apply below_al))).out.2.2.2.1).mono ?_; rintro e w3 ⟨rfl, hb⟩; replace HI := HI.go2 (by repeat (first | exact Below.refl _ _ | apply Below.drew | apply below_drewN | apply below_al)) hb; clear hb))
  go_ret
  exact ⟨rfl, (HI.go (by repeat (first | exact Below.refl _ _ | apply Below.drew | apply below_drewN | apply below_al))).out.2.2.2.2⟩
end Go.Proofs.YtidjmbmnfnnleaaDoor
