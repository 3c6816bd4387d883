/-
  Rules: a rule's box, and the walks of Check.
-/
import Derived.Test.YtidjmbmnfnnleaaDoorMD
import Derived.Test.YtidjmbmnfnnleaaDoorQ22
import Derived.Test.YtidjmbmnfnnleaaDoorQ18
namespace Go.Proofs.YtidjmbmnfnnleaaDoor
set_option linter.unusedSimpArgs false
set_option linter.unusedVariables false
open Go.RowKit
open Pm

/-- what is wrong with a rule -/
def ruleE (xs : List ByteArray) (r : Bool) (ys : List ByteArray) (t : Bool) : Int :=
  if checkP xs r ≠ 0 then 40 else if checkP ys t ≠ 0 then 41 else if countB stB xs = countB stB ys ∧ r = t then 0 else 42
theorem ruleE_zero {xs ys : List ByteArray} {r t : Bool} : ruleE xs r ys t = 0 ↔ checkP xs r = 0 ∧ checkP ys t = 0 ∧ countB stB xs = countB stB ys ∧ r = t := by
  unfold ruleE
  by_cases h1 : checkP xs r = 0
  · rw [if_neg (by simp [h1])]
    by_cases h2 : checkP ys t = 0
    · rw [if_neg (by simp [h2])]
      by_cases h3 : countB stB xs = countB stB ys ∧ r = t
      · rw [if_pos h3]
        exact ⟨fun _ => ⟨h1, h2, h3.1, h3.2⟩, fun _ => rfl⟩
      · rw [if_neg h3]
        exact ⟨fun h => (by cases h), fun h => absurd ⟨h.2.2.1, h.2.2.2⟩ h3⟩
    · rw [if_pos h2]
      exact ⟨fun h => (by cases h), fun h => absurd h.2.1 h2⟩
  · rw [if_pos h1]
    exact ⟨fun h => (by cases h), fun h => absurd h.1 h1⟩
theorem ruleE_turn {xs ys : List ByteArray} {r t : Bool} : ruleE xs r ys t = 0 ↔ ruleE ys t xs r = 0 := by
  rw [ruleE_zero, ruleE_zero]
  exact ⟨fun h => ⟨h.2.1, h.1, h.2.2.1.symm, h.2.2.2.symm⟩, fun h => ⟨h.2.1, h.1, h.2.2.1.symm, h.2.2.2.symm⟩⟩

/-- a rule's value, and its cells -/
def ruV (ex : Bool) (A : Option Addr) (c : Nat) (xs : List ByteArray) (r : Bool) (B : Option Addr) (d : Nat) (ys : List ByteArray) (t : Bool) : Value :=
  .agg #[.bool ex, .slice A xs.length c, .bool r, .slice B ys.length d, .bool t]
/-- a box of five cells -/
def P5 (w : World) (g : Nat) (u0 u1 u2 u3 u4 : Value) : Prop :=
  w.cell? ⟨g, 0, none⟩ = some u0 ∧ w.cell? ⟨g, 1, none⟩ = some u1 ∧ w.cell? ⟨g, 2, none⟩ = some u2 ∧ w.cell? ⟨g, 3, none⟩ = some u3 ∧ w.cell? ⟨g, 4, none⟩ = some u4 ∧ g < w.heap.size
theorem P5.new (w : World) (u0 u1 u2 u3 u4 : Value) (T : TypeId) : P5 (w.alloc (.cells #[u0, u1, u2, u3, u4] T)) w.heap.size u0 u1 u2 u3 u4 :=
  ⟨by simp [World.cell?_alloc_new], by simp [World.cell?_alloc_new], by simp [World.cell?_alloc_new], by simp [World.cell?_alloc_new], by simp [World.cell?_alloc_new], by simp⟩
theorem kept_p5 (g : Nat) (u0 u1 u2 u3 u4 : Value) : Kept (fun w => P5 w g u0 u1 u2 u3 u4) := fun w w' h hb =>
  ⟨(hb.cell (p := ⟨g, 0, none⟩) h.2.2.2.2.2).trans h.1, (hb.cell (p := ⟨g, 1, none⟩) h.2.2.2.2.2).trans h.2.1, (hb.cell (p := ⟨g, 2, none⟩) h.2.2.2.2.2).trans h.2.2.1, (hb.cell (p := ⟨g, 3, none⟩) h.2.2.2.2.2).trans h.2.2.2.1, (hb.cell (p := ⟨g, 4, none⟩) h.2.2.2.2.2).trans h.2.2.2.2.1, Nat.lt_of_lt_of_le h.2.2.2.2.2 hb.size⟩
/-- the state: a rule in a box of its own, and where its texts lie -/
def PR (W : World) (ex : Bool) (A : Option Addr) (c : Nat) (xs : List ByteArray) (r : Bool) (B : Option Addr) (d : Nat) (ys : List ByteArray) (t : Bool) (w : World) : Prop :=
  P5 w W.heap.size (.bool ex) (.slice A xs.length c) (.bool r) (.slice B ys.length d) (.bool t) ∧ RT w A c xs ∧ RT w B d ys ∧ ML w ∧ Below W.heap.size W w
theorem PR.kept (W : World) (ex : Bool) (A : Option Addr) (c : Nat) (xs : List ByteArray) (r : Bool) (B : Option Addr) (d : Nat) (ys : List ByteArray) (t : Bool) : Kept (PR W ex A c xs r B d ys t) :=
  (kept_p5 _ _ _ _ _ _).both ((kept_rt _ _ _).both ((kept_rt _ _ _).both (kept_ml.both (kept_below _))))
theorem PR.enter {W : World} {A : Option Addr} {c : Nat} {xs : List ByteArray} {B : Option Addr} {d : Nat} {ys : List ByteArray} (h : RT W A c xs) (k : RT W B d ys) (m : ML W) (ex r t : Bool) (T : TypeId) :
    At (PR W ex A c xs r B d ys t) (W.alloc (.cells #[.bool ex, .slice A xs.length c, .bool r, .slice B ys.length d, .bool t] T)) :=
  ⟨PR.kept _ _ _ _ _ _ _ _ _ _, P5.new W _ _ _ _ _ _, h.below (below_alloc _ _), k.below (below_alloc _ _), m.below (below_alloc _ _), below_alloc _ _⟩
theorem PR.cells {W : World} {ex : Bool} {A : Option Addr} {c : Nat} {xs : List ByteArray} {r : Bool} {B : Option Addr} {d : Nat} {ys : List ByteArray} {t : Bool} {w : World} (h : At (PR W ex A c xs r B d ys t) w) :
    P5 w W.heap.size (.bool ex) (.slice A xs.length c) (.bool r) (.slice B ys.length d) (.bool t) := h.out.1
theorem PR.x {W : World} {ex : Bool} {A : Option Addr} {c : Nat} {xs : List ByteArray} {r : Bool} {B : Option Addr} {d : Nat} {ys : List ByteArray} {t : Bool} {w : World} (h : At (PR W ex A c xs r B d ys t) w) : RT w A c xs := h.out.2.1
theorem PR.y {W : World} {ex : Bool} {A : Option Addr} {c : Nat} {xs : List ByteArray} {r : Bool} {B : Option Addr} {d : Nat} {ys : List ByteArray} {t : Bool} {w : World} (h : At (PR W ex A c xs r B d ys t) w) : RT w B d ys := h.out.2.2.1
theorem PR.m {W : World} {ex : Bool} {A : Option Addr} {c : Nat} {xs : List ByteArray} {r : Bool} {B : Option Addr} {d : Nat} {ys : List ByteArray} {t : Bool} {w : World} (h : At (PR W ex A c xs r B d ys t) w) : ML w := h.out.2.2.2.1
theorem PR.b {W : World} {ex : Bool} {A : Option Addr} {c : Nat} {xs : List ByteArray} {r : Bool} {B : Option Addr} {d : Nat} {ys : List ByteArray} {t : Bool} {w : World} (h : At (PR W ex A c xs r B d ys t) w) : Below W.heap.size W w := h.out.2.2.2.2
theorem ret_n {a b : Int} (h : a = b) : Ending.returned (.int .i64 a) = .returned (.int .i64 b) := by rw [h]
theorem five9 {xs : List ByteArray} (h : ∀ x ∈ xs, x.size ≤ 5000) : ∀ x ∈ xs, x.size ≤ 9223372036854775807 := fun x hx => by have := h x hx; omega
theorem kind_zero {xs : List ByteArray} {r : Bool} (h : checkP xs r = 0) : kindN xs r = countB stB xs ∧ kindR xs r = r := kindN_eq h

set_option maxHeartbeats 2000000 in
theorem ruleCheck_any (ex : Bool) (A B : Option Addr) (c d : Nat) (xs ys : List ByteArray) (r t : Bool) (w : World) (h : RT w A c xs) (k : RT w B d ys) (hm : ML w) (hsx : ∀ x ∈ xs, x.size ≤ 5000) (hsy : ∀ x ∈ ys, x.size ≤ 5000) :
    Calls Tryd.prog 21 #[ruV ex A c xs r B d ys t] w fun e w' => e = .returned (.int .i64 (ruleE xs r ys t)) ∧ Below w.heap.size w w' := by
  unfold ruV
  have HI := PR.enter h k hm ex r t 26
  have HKX := Lib.hid (fun w h => kinds_any A c xs r w h (five9 hsx))
  have HKY := Lib.hid (fun w h => kinds_any B d ys t w h (five9 hsy))
  have HR : Hid (ruleE xs r ys t = if checkP xs r ≠ 0 then 40 else if checkP ys t ≠ 0 then 41 else if countB stB xs = countB stB ys ∧ r = t then 0 else 42) := Lib.hid rfl
  have hx1 := h.1
  have hx2 := h.2.1
  have hy1 := k.1
  have hy2 := k.2.1
  clear h k hm hsx hsy
  by_cases h1 : checkP xs r = 0
  · rw [(kind_zero h1).1, (kind_zero h1).2, h1] at HKX
    by_cases h2 : checkP ys t = 0
    · rw [(kind_zero h2).1, (kind_zero h2).2, h2] at HKY
      rw [h1, h2] at HR
      simp only [ne_eq, not_true_eq_false, if_false] at HR
      clear h1 h2
      generalize countB stB xs = n at *
      generalize countB stB ys = m at *
      by_cases h3 : n = m
      · subst h3
        by_cases h4 : r = t
        · subst h4
          simp at HR
          have hrr : (r != r) = false := by simp
          rw [HR.out]
          go_enter Tryd.func21, Tryd.ntmps21
          go_wp2_with (first
            | (go_at_call_of 40 (Value.agg #[.slice A xs.length c, .bool r]); refine (HKX.out _ (PR.x (HI.go (by repeat (first | exact Below.refl _ _ | apply Below.drew | apply below_drewN | apply below_al))))).mono ?_; rintro e w1 ⟨rfl, hb⟩; replace HI := HI.go2 (by repeat (first | exact Below.refl _ _ | apply Below.drew | apply below_drewN | apply below_al)) hb; clear hb; obtain ⟨p1, p2, p3, p4, p5, p6⟩ := PR.cells HI)
            | (go_at_call_of 40 (Value.agg #[.slice B ys.length d, .bool r]); refine (HKY.out _ (PR.y (HI.go (by repeat (first | exact Below.refl _ _ | apply Below.drew | apply below_drewN | apply below_al))))).mono ?_; rintro e w1 ⟨rfl, hb⟩; replace HI := HI.go2 (by repeat (first | exact Below.refl _ _ | apply Below.drew | apply below_drewN | apply below_al)) hb; clear hb; obtain ⟨p1, p2, p3, p4, p5, p6⟩ := PR.cells HI))
          go_ret
          exact ⟨rfl, PR.b HI⟩
        · have hrr : (r == t) = false := by rw [beq_eq_false_iff_ne]; exact h4
          simp [h4] at HR
          clear h4
          rw [HR.out]
          go_enter Tryd.func21, Tryd.ntmps21
          go_wp2_with (first
            | (go_at_call_of 40 (Value.agg #[.slice A xs.length c, .bool r]); refine (HKX.out _ (PR.x (HI.go (by repeat (first | exact Below.refl _ _ | apply Below.drew | apply below_drewN | apply below_al))))).mono ?_; rintro e w1 ⟨rfl, hb⟩; replace HI := HI.go2 (by repeat (first | exact Below.refl _ _ | apply Below.drew | apply below_drewN | apply below_al)) hb; clear hb; obtain ⟨p1, p2, p3, p4, p5, p6⟩ := PR.cells HI)
            | (go_at_call_of 40 (Value.agg #[.slice B ys.length d, .bool t]); refine (HKY.out _ (PR.y (HI.go (by repeat (first | exact Below.refl _ _ | apply Below.drew | apply below_drewN | apply below_al))))).mono ?_; rintro e w1 ⟨rfl, hb⟩; replace HI := HI.go2 (by repeat (first | exact Below.refl _ _ | apply Below.drew | apply below_drewN | apply below_al)) hb; clear hb; obtain ⟨p1, p2, p3, p4, p5, p6⟩ := PR.cells HI))
          go_ret
          exact ⟨rfl, PR.b HI⟩
      · have hnm : ((n : Int) != (m : Int)) = true := by rw [bne_iff_ne]; omega
        simp [h3] at HR
        rw [HR.out]
        clear h3
        go_enter Tryd.func21, Tryd.ntmps21
        go_wp2_with (first
          | (go_at_call_of 40 (Value.agg #[.slice A xs.length c, .bool r]); refine (HKX.out _ (PR.x (HI.go (by repeat (first | exact Below.refl _ _ | apply Below.drew | apply below_drewN | apply below_al))))).mono ?_; rintro e w1 ⟨rfl, hb⟩; replace HI := HI.go2 (by repeat (first | exact Below.refl _ _ | apply Below.drew | apply below_drewN | apply below_al)) hb; clear hb; obtain ⟨p1, p2, p3, p4, p5, p6⟩ := PR.cells HI)
            | (go_at_call_of 40 (Value.agg #[.slice B ys.length d, .bool t]); refine (HKY.out _ (PR.y (HI.go (by repeat (first | exact Below.refl _ _ | apply Below.drew | apply below_drewN | apply below_al))))).mono ?_; rintro e w1 ⟨rfl, hb⟩; replace HI := HI.go2 (by repeat (first | exact Below.refl _ _ | apply Below.drew | apply below_drewN | apply below_al)) hb; clear hb; obtain ⟨p1, p2, p3, p4, p5, p6⟩ := PR.cells HI))
        go_ret
        exact ⟨rfl, PR.b HI⟩
    · have hnB : (checkP ys t != 0) = true := by rw [bne_iff_ne]; exact h2
      rw [h1] at HR
      simp only [ne_eq, not_true_eq_false, if_false, h2, not_false_eq_true, if_true] at HR
      rw [HR.out]
      clear h1 h2
      generalize checkP ys t = n at *
      generalize kindN ys t = kn at *
      generalize kindR ys t = kr at *
      go_enter Tryd.func21, Tryd.ntmps21
      go_wp2_with (first
        | (go_at_call_of 40 (Value.agg #[.slice A xs.length c, .bool r]); refine (HKX.out _ (PR.x (HI.go (by repeat (first | exact Below.refl _ _ | apply Below.drew | apply below_drewN | apply below_al))))).mono ?_; rintro e w1 ⟨rfl, hb⟩; replace HI := HI.go2 (by repeat (first | exact Below.refl _ _ | apply Below.drew | apply below_drewN | apply below_al)) hb; clear hb; obtain ⟨p1, p2, p3, p4, p5, p6⟩ := PR.cells HI)
            | (go_at_call_of 40 (Value.agg #[.slice B ys.length d, .bool t]); refine (HKY.out _ (PR.y (HI.go (by repeat (first | exact Below.refl _ _ | apply Below.drew | apply below_drewN | apply below_al))))).mono ?_; rintro e w1 ⟨rfl, hb⟩; replace HI := HI.go2 (by repeat (first | exact Below.refl _ _ | apply Below.drew | apply below_drewN | apply below_al)) hb; clear hb; obtain ⟨p1, p2, p3, p4, p5, p6⟩ := PR.cells HI))
      go_ret
      exact ⟨rfl, PR.b HI⟩
  · have hnB : (checkP xs r != 0) = true := by rw [bne_iff_ne]; exact h1
    simp only [ne_eq, h1, not_false_eq_true, if_true] at HR
    rw [HR.out]
    clear h1
    generalize checkP xs r = n at *
    generalize kindN xs r = kn at *
    generalize kindR xs r = kr at *
    go_enter Tryd.func21, Tryd.ntmps21
    go_wp2_with (go_at_call 40; refine (HKX.out _ (PR.x (HI.go (by repeat (first | exact Below.refl _ _ | apply Below.drew | apply below_drewN | apply below_al))))).mono ?_; rintro e w1 ⟨rfl, hb⟩; replace HI := HI.go2 (by repeat (first | exact Below.refl _ _ | apply Below.drew | apply below_drewN | apply below_al)) hb; clear hb)
    go_ret
    exact ⟨rfl, PR.b HI⟩

set_option maxHeartbeats 2000000 in
theorem rruleCheck_any (ex : Bool) (A B : Option Addr) (c d : Nat) (xs ys : List ByteArray) (r t : Bool) (w : World) (h : RT w A c xs) (k : RT w B d ys) (hm : ML w) (hsx : ∀ x ∈ xs, x.size ≤ 5000) (hsy : ∀ x ∈ ys, x.size ≤ 5000) :
    Calls Tryd.prog 22 #[ruV ex A c xs r B d ys t] w fun e w' => e = .returned (.int .i64 (ruleE xs r ys t)) ∧ Below w.heap.size w w' := by
  unfold ruV
  have HI := PR.enter h k hm ex r t 26
  have HKX := Lib.hid (fun w h => rkinds_any A c xs r w h (five9 hsx))
  have HKY := Lib.hid (fun w h => rkinds_any B d ys t w h (five9 hsy))
  have HCX := Lib.hid (fun w h => rcheck_any A c xs r w h (five9 hsx))
  have HCY := Lib.hid (fun w h => rcheck_any B d ys t w h (five9 hsy))
  have HR : Hid (ruleE xs r ys t = if checkP xs r ≠ 0 then 40 else if checkP ys t ≠ 0 then 41 else if countB stB xs = countB stB ys ∧ r = t then 0 else 42) := Lib.hid rfl
  have hx1 := h.1
  have hx2 := h.2.1
  have hy1 := k.1
  have hy2 := k.2.1
  clear h k hm hsx hsy
  by_cases h1 : checkP xs r = 0
  · rw [count_agree (parts_all (check_zero h1).2.2)] at HKX
    rw [h1] at HCX
    by_cases h2 : checkP ys t = 0
    · rw [count_agree (parts_all (check_zero h2).2.2)] at HKY
      rw [h2] at HCY
      rw [h1, h2] at HR
      simp only [ne_eq, not_true_eq_false, if_false] at HR
      clear h1 h2
      generalize countB stB xs = n at *
      generalize countB stB ys = m at *
      by_cases h3 : n = m
      · subst h3
        by_cases h4 : r = t
        · subst h4
          simp at HR
          have hrr : (r != r) = false := by simp
          rw [HR.out]
          go_enter Tryd.func22, Tryd.ntmps22
          go_wp2_with (first
            | (go_at_call_of 41 (Value.agg #[.slice A xs.length c, .bool r]); refine (HCX.out _ (PR.x (HI.go (by repeat (first | exact Below.refl _ _ | apply Below.drew | apply below_drewN | apply below_al))))).mono ?_; rintro e w1 ⟨rfl, hb⟩; replace HI := HI.go2 (by repeat (first | exact Below.refl _ _ | apply Below.drew | apply below_drewN | apply below_al)) hb; clear hb; obtain ⟨p1, p2, p3, p4, p5, p6⟩ := PR.cells HI)
            | (go_at_call_of 41 (Value.agg #[.slice B ys.length d, .bool r]); refine (HCY.out _ (PR.y (HI.go (by repeat (first | exact Below.refl _ _ | apply Below.drew | apply below_drewN | apply below_al))))).mono ?_; rintro e w1 ⟨rfl, hb⟩; replace HI := HI.go2 (by repeat (first | exact Below.refl _ _ | apply Below.drew | apply below_drewN | apply below_al)) hb; clear hb; obtain ⟨p1, p2, p3, p4, p5, p6⟩ := PR.cells HI)
            | (go_at_call_of 42 (Value.agg #[.slice A xs.length c, .bool r]); refine (HKX.out _ (PR.x (HI.go (by repeat (first | exact Below.refl _ _ | apply Below.drew | apply below_drewN | apply below_al))))).mono ?_; rintro e w1 ⟨rfl, hb⟩; replace HI := HI.go2 (by repeat (first | exact Below.refl _ _ | apply Below.drew | apply below_drewN | apply below_al)) hb; clear hb; obtain ⟨p1, p2, p3, p4, p5, p6⟩ := PR.cells HI)
            | (go_at_call_of 42 (Value.agg #[.slice B ys.length d, .bool r]); refine (HKY.out _ (PR.y (HI.go (by repeat (first | exact Below.refl _ _ | apply Below.drew | apply below_drewN | apply below_al))))).mono ?_; rintro e w1 ⟨rfl, hb⟩; replace HI := HI.go2 (by repeat (first | exact Below.refl _ _ | apply Below.drew | apply below_drewN | apply below_al)) hb; clear hb; obtain ⟨p1, p2, p3, p4, p5, p6⟩ := PR.cells HI))
          go_ret
          exact ⟨rfl, PR.b HI⟩
        · have hrr : (r == t) = false := by rw [beq_eq_false_iff_ne]; exact h4
          simp [h4] at HR
          clear h4
          rw [HR.out]
          go_enter Tryd.func22, Tryd.ntmps22
          go_wp2_with (first
            | (go_at_call_of 41 (Value.agg #[.slice A xs.length c, .bool r]); refine (HCX.out _ (PR.x (HI.go (by repeat (first | exact Below.refl _ _ | apply Below.drew | apply below_drewN | apply below_al))))).mono ?_; rintro e w1 ⟨rfl, hb⟩; replace HI := HI.go2 (by repeat (first | exact Below.refl _ _ | apply Below.drew | apply below_drewN | apply below_al)) hb; clear hb; obtain ⟨p1, p2, p3, p4, p5, p6⟩ := PR.cells HI)
            | (go_at_call_of 41 (Value.agg #[.slice B ys.length d, .bool t]); refine (HCY.out _ (PR.y (HI.go (by repeat (first | exact Below.refl _ _ | apply Below.drew | apply below_drewN | apply below_al))))).mono ?_; rintro e w1 ⟨rfl, hb⟩; replace HI := HI.go2 (by repeat (first | exact Below.refl _ _ | apply Below.drew | apply below_drewN | apply below_al)) hb; clear hb; obtain ⟨p1, p2, p3, p4, p5, p6⟩ := PR.cells HI)
            | (go_at_call_of 42 (Value.agg #[.slice A xs.length c, .bool r]); refine (HKX.out _ (PR.x (HI.go (by repeat (first | exact Below.refl _ _ | apply Below.drew | apply below_drewN | apply below_al))))).mono ?_; rintro e w1 ⟨rfl, hb⟩; replace HI := HI.go2 (by repeat (first | exact Below.refl _ _ | apply Below.drew | apply below_drewN | apply below_al)) hb; clear hb; obtain ⟨p1, p2, p3, p4, p5, p6⟩ := PR.cells HI)
            | (go_at_call_of 42 (Value.agg #[.slice B ys.length d, .bool t]); refine (HKY.out _ (PR.y (HI.go (by repeat (first | exact Below.refl _ _ | apply Below.drew | apply below_drewN | apply below_al))))).mono ?_; rintro e w1 ⟨rfl, hb⟩; replace HI := HI.go2 (by repeat (first | exact Below.refl _ _ | apply Below.drew | apply below_drewN | apply below_al)) hb; clear hb; obtain ⟨p1, p2, p3, p4, p5, p6⟩ := PR.cells HI))
          go_ret
          exact ⟨rfl, PR.b HI⟩
      · have hnm : ((n : Int) != (m : Int)) = true := by rw [bne_iff_ne]; omega
        simp [h3] at HR
        rw [HR.out]
        clear h3
        go_enter Tryd.func22, Tryd.ntmps22
        go_wp2_with (first
          | (go_at_call_of 41 (Value.agg #[.slice A xs.length c, .bool r]); refine (HCX.out _ (PR.x (HI.go (by repeat (first | exact Below.refl _ _ | apply Below.drew | apply below_drewN | apply below_al))))).mono ?_; rintro e w1 ⟨rfl, hb⟩; replace HI := HI.go2 (by repeat (first | exact Below.refl _ _ | apply Below.drew | apply below_drewN | apply below_al)) hb; clear hb; obtain ⟨p1, p2, p3, p4, p5, p6⟩ := PR.cells HI)
            | (go_at_call_of 41 (Value.agg #[.slice B ys.length d, .bool t]); refine (HCY.out _ (PR.y (HI.go (by repeat (first | exact Below.refl _ _ | apply Below.drew | apply below_drewN | apply below_al))))).mono ?_; rintro e w1 ⟨rfl, hb⟩; replace HI := HI.go2 (by repeat (first | exact Below.refl _ _ | apply Below.drew | apply below_drewN | apply below_al)) hb; clear hb; obtain ⟨p1, p2, p3, p4, p5, p6⟩ := PR.cells HI)
          | (go_at_call_of 42 (Value.agg #[.slice A xs.length c, .bool r]); refine (HKX.out _ (PR.x (HI.go (by repeat (first | exact Below.refl _ _ | apply Below.drew | apply below_drewN | apply below_al))))).mono ?_; rintro e w1 ⟨rfl, hb⟩; replace HI := HI.go2 (by repeat (first | exact Below.refl _ _ | apply Below.drew | apply below_drewN | apply below_al)) hb; clear hb; obtain ⟨p1, p2, p3, p4, p5, p6⟩ := PR.cells HI)
            | (go_at_call_of 42 (Value.agg #[.slice B ys.length d, .bool t]); refine (HKY.out _ (PR.y (HI.go (by repeat (first | exact Below.refl _ _ | apply Below.drew | apply below_drewN | apply below_al))))).mono ?_; rintro e w1 ⟨rfl, hb⟩; replace HI := HI.go2 (by repeat (first | exact Below.refl _ _ | apply Below.drew | apply below_drewN | apply below_al)) hb; clear hb; obtain ⟨p1, p2, p3, p4, p5, p6⟩ := PR.cells HI))
        go_ret
        exact ⟨rfl, PR.b HI⟩
    · have hnB : (checkP ys t != 0) = true := by rw [bne_iff_ne]; exact h2
      rw [h1] at HR
      simp only [ne_eq, not_true_eq_false, if_false, h2, not_false_eq_true, if_true] at HR
      rw [HR.out]
      clear h1 h2
      generalize checkP ys t = n at *
      go_enter Tryd.func22, Tryd.ntmps22
      go_wp2_with (first
        | (go_at_call_of 41 (Value.agg #[.slice A xs.length c, .bool r]); refine (HCX.out _ (PR.x (HI.go (by repeat (first | exact Below.refl _ _ | apply Below.drew | apply below_drewN | apply below_al))))).mono ?_; rintro e w1 ⟨rfl, hb⟩; replace HI := HI.go2 (by repeat (first | exact Below.refl _ _ | apply Below.drew | apply below_drewN | apply below_al)) hb; clear hb; obtain ⟨p1, p2, p3, p4, p5, p6⟩ := PR.cells HI)
        | (go_at_call_of 41 (Value.agg #[.slice B ys.length d, .bool t]); refine (HCY.out _ (PR.y (HI.go (by repeat (first | exact Below.refl _ _ | apply Below.drew | apply below_drewN | apply below_al))))).mono ?_; rintro e w1 ⟨rfl, hb⟩; replace HI := HI.go2 (by repeat (first | exact Below.refl _ _ | apply Below.drew | apply below_drewN | apply below_al)) hb; clear hb; obtain ⟨p1, p2, p3, p4, p5, p6⟩ := PR.cells HI))
      go_ret
      exact ⟨rfl, PR.b HI⟩
  · have hnB : (checkP xs r != 0) = true := by rw [bne_iff_ne]; exact h1
    simp only [ne_eq, h1, not_false_eq_true, if_true] at HR
    rw [HR.out]
    clear h1
    generalize checkP xs r = n at *
    go_enter Tryd.func22, Tryd.ntmps22
    go_wp2_with (go_at_call 41; refine (HCX.out _ (PR.x (HI.go (by repeat (first | exact Below.refl _ _ | apply Below.drew | apply below_drewN | apply below_al))))).mono ?_; rintro e w1 ⟨rfl, hb⟩; replace HI := HI.go2 (by repeat (first | exact Below.refl _ _ | apply Below.drew | apply below_drewN | apply below_al)) hb; clear hb)
    go_ret
    exact ⟨rfl, PR.b HI⟩
end Go.Proofs.YtidjmbmnfnnleaaDoor

