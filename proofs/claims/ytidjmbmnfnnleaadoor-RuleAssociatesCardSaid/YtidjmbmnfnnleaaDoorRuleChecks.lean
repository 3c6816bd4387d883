/-
  RuleChecks returns true.
-/
import Derived.Test.YtidjmbmnfnnleaaDoorRuleBack
namespace Go.Proofs.YtidjmbmnfnnleaaDoor
set_option linter.unusedSimpArgs false
set_option linter.unusedVariables false
open Go.RowKit
open Pm

theorem same_self4 (xs : List ByteArray) (r : Bool) : sameB xs xs r r = true := by unfold sameB; simp
/-- two rules in boxes -/
def PRR (W : World) (ex : Bool) (A : Option Addr) (c : Nat) (xs : List ByteArray) (r : Bool) (B : Option Addr) (d : Nat) (ys : List ByteArray) (t : Bool)
    (fx : Bool) (C : Option Addr) (e : Nat) (zs : List ByteArray) (u : Bool) (D : Option Addr) (f : Nat) (vs : List ByteArray) (v : Bool) (w : World) : Prop :=
  (P5 w W.heap.size (.bool ex) (.slice A xs.length c) (.bool r) (.slice B ys.length d) (.bool t) ∧ P5 w (W.heap.size + 1) (.bool fx) (.slice C zs.length e) (.bool u) (.slice D vs.length f) (.bool v)) ∧ (RT w A c xs ∧ RT w B d ys) ∧ (RT w C e zs ∧ RT w D f vs) ∧ ML w ∧ Below W.heap.size W w
theorem PRR.kept (W : World) (ex : Bool) (A : Option Addr) (c : Nat) (xs : List ByteArray) (r : Bool) (B : Option Addr) (d : Nat) (ys : List ByteArray) (t : Bool)
    (fx : Bool) (C : Option Addr) (e : Nat) (zs : List ByteArray) (u : Bool) (D : Option Addr) (f : Nat) (vs : List ByteArray) (v : Bool) : Kept (PRR W ex A c xs r B d ys t fx C e zs u D f vs v) :=
  ((kept_p5 _ _ _ _ _ _).both (kept_p5 _ _ _ _ _ _)).both (((kept_rt _ _ _).both (kept_rt _ _ _)).both (((kept_rt _ _ _).both (kept_rt _ _ _)).both (kept_ml.both (kept_below _))))
theorem PRR.enter {W : World} {A : Option Addr} {c : Nat} {xs : List ByteArray} {B : Option Addr} {d : Nat} {ys : List ByteArray} {C : Option Addr} {e : Nat} {zs : List ByteArray} {D : Option Addr} {f : Nat} {vs : List ByteArray}
    (h : RT W A c xs) (k : RT W B d ys) (h' : RT W C e zs) (k' : RT W D f vs) (m : ML W) (ex r t fx u v : Bool) (T : TypeId) :
    At (PRR W ex A c xs r B d ys t fx C e zs u D f vs v) ((W.alloc (.cells #[.bool ex, .slice A xs.length c, .bool r, .slice B ys.length d, .bool t] T)).alloc (.cells #[.bool fx, .slice C zs.length e, .bool u, .slice D vs.length f, .bool v] T)) :=
  ⟨PRR.kept _ _ _ _ _ _ _ _ _ _ _ _ _ _ _ _ _ _ _, ⟨(kept_p5 _ _ _ _ _ _) _ _ (P5.new W _ _ _ _ _ _) (below_alloc _ _), P5.snd _ _ _ _ _ _ _ _⟩, ⟨(h.below (below_alloc _ _)).below (below_alloc _ _), (k.below (below_alloc _ _)).below (below_alloc _ _)⟩,
    ⟨(h'.below (below_alloc _ _)).below (below_alloc _ _), (k'.below (below_alloc _ _)).below (below_alloc _ _)⟩, (m.below (below_alloc _ _)).below (below_alloc _ _), below_alloc2 _ _ _⟩

set_option maxHeartbeats 2000000 in
theorem rsame_any (ex : Bool) (A : Option Addr) (c : Nat) (xs : List ByteArray) (r : Bool) (B : Option Addr) (d : Nat) (ys : List ByteArray) (t : Bool) (C : Option Addr) (e : Nat) (D : Option Addr) (f : Nat) (w : World) (h : RT w A c xs) (k : RT w B d ys) (h' : RT w C e xs) (k' : RT w D f ys) (hm : ML w) :
    Calls Tryd.prog 23 #[ruV ex A c xs r B d ys t, ruV ex C e xs r D f ys t] w fun e w' => e = .returned (.bool true) ∧ Below w.heap.size w w' := by
  have HI := PRR.enter h k h' k' hm ex r t ex r t 26
  have HSA : Hid (∀ (A B : Option Addr) (c d : Nat) (xs : List ByteArray) (r : Bool) (w : World), RT w A c xs → RT w B d xs →
    Calls Tryd.prog 34 #[.agg #[.slice A xs.length c, .bool r], .agg #[.slice B xs.length d, .bool r]] w fun e w' => e = .returned (.bool true) ∧ Below w.heap.size w w') := Lib.hid (fun A B c d xs r w h k => by
      have := psame_any A B c d xs xs r r w h k
      rw [same_self4] at this
      exact this)
  unfold ruV
  have hx1 := h.1
  have hx2 := h.2.1
  have hy1 := k.1
  have hy2 := k.2.1
  have hz1 := h'.1
  have hz2 := h'.2.1
  have hv1 := k'.1
  have hv2 := k'.2.1
  have hee : (ex == ex) = true := by simp
  clear h k h' k' hm
  go_enter Tryd.func23, Tryd.ntmps23
  go_wp2_with (first
    | (go_at_call_of 34 (Value.agg #[.slice A xs.length c, .bool r]); refine (HSA.out _ _ _ _ _ _ _ (HI.go (by repeat (first | exact Below.refl _ _ | apply Below.drew | apply below_drewN | apply below_al))).out.2.1.1 (HI.go (by repeat (first | exact Below.refl _ _ | apply Below.drew | apply below_drewN | apply below_al))).out.2.2.1.1).mono ?_; rintro e w3 ⟨rfl, hb⟩; replace HI := HI.go2 (by repeat (first | exact Below.refl _ _ | apply Below.drew | apply below_drewN | apply below_al)) hb; clear hb; obtain ⟨⟨p1, p2, p3, p4, p5, p6⟩, ⟨q1, q2, q3, q4, q5, q6⟩⟩ := HI.out.1)
    | (go_at_call_of 34 (Value.agg #[.slice B ys.length d, .bool t]); refine (HSA.out _ _ _ _ _ _ _ (HI.go (by repeat (first | exact Below.refl _ _ | apply Below.drew | apply below_drewN | apply below_al))).out.2.1.2 (HI.go (by repeat (first | exact Below.refl _ _ | apply Below.drew | apply below_drewN | apply below_al))).out.2.2.1.2).mono ?_; rintro e w3 ⟨rfl, hb⟩; replace HI := HI.go2 (by repeat (first | exact Below.refl _ _ | apply Below.drew | apply below_drewN | apply below_al)) hb; clear hb))
  go_ret
  exact ⟨rfl, (HI.go (by repeat (first | exact Below.refl _ _ | apply Below.drew | apply below_drewN | apply below_al))).out.2.2.2.2⟩

/-- what the last statement needs -/
def PCK (W : World) (ex : Bool) (A : Option Addr) (c : Nat) (xs : List ByteArray) (r : Bool) (B : Option Addr) (d : Nat) (ys : List ByteArray) (t : Bool) (g : Nat) (C : Option Addr) (e : Nat) (D : Option Addr) (f : Nat) (w : World) : Prop :=
  PR W ex A c xs r B d ys t w ∧ P5 w g (.bool ex) (.slice C ys.length e) (.bool t) (.slice D xs.length f) (.bool r) ∧ RT w C e ys ∧ RT w D f xs
theorem PCK.kept (W : World) (ex : Bool) (A : Option Addr) (c : Nat) (xs : List ByteArray) (r : Bool) (B : Option Addr) (d : Nat) (ys : List ByteArray) (t : Bool) (g : Nat) (C : Option Addr) (e : Nat) (D : Option Addr) (f : Nat) : Kept (PCK W ex A c xs r B d ys t g C e D f) :=
  (PR.kept _ _ _ _ _ _ _ _ _ _).both ((kept_p5 _ _ _ _ _ _).both ((kept_rt _ _ _).both (kept_rt _ _ _)))
theorem PCK.pr {W : World} {ex : Bool} {A : Option Addr} {c : Nat} {xs : List ByteArray} {r : Bool} {B : Option Addr} {d : Nat} {ys : List ByteArray} {t : Bool} {g : Nat} {C : Option Addr} {e : Nat} {D : Option Addr} {f : Nat} {w : World} (h : At (PCK W ex A c xs r B d ys t g C e D f) w) : At (PR W ex A c xs r B d ys t) w := ⟨PR.kept _ _ _ _ _ _ _ _ _ _, h.out.1⟩
theorem PCK.cells {W : World} {ex : Bool} {A : Option Addr} {c : Nat} {xs : List ByteArray} {r : Bool} {B : Option Addr} {d : Nat} {ys : List ByteArray} {t : Bool} {g : Nat} {C : Option Addr} {e : Nat} {D : Option Addr} {f : Nat} {w : World} (h : At (PCK W ex A c xs r B d ys t g C e D f) w) :
    (w.cell? ⟨W.heap.size, 0, none⟩ = some (.bool ex) ∧ w.cell? ⟨W.heap.size, 1, none⟩ = some (.slice A xs.length c) ∧ w.cell? ⟨W.heap.size, 2, none⟩ = some (.bool r) ∧ w.cell? ⟨W.heap.size, 3, none⟩ = some (.slice B ys.length d) ∧ w.cell? ⟨W.heap.size, 4, none⟩ = some (.bool t)) ∧
    (w.cell? ⟨g, 0, none⟩ = some (.bool ex) ∧ w.cell? ⟨g, 1, none⟩ = some (.slice C ys.length e) ∧ w.cell? ⟨g, 2, none⟩ = some (.bool t) ∧ w.cell? ⟨g, 3, none⟩ = some (.slice D xs.length f) ∧ w.cell? ⟨g, 4, none⟩ = some (.bool r)) :=
  ⟨⟨h.out.1.1.1, h.out.1.1.2.1, h.out.1.1.2.2.1, h.out.1.1.2.2.2.1, h.out.1.1.2.2.2.2.1⟩, ⟨h.out.2.1.1, h.out.2.1.2.1, h.out.2.1.2.2.1, h.out.2.1.2.2.2.1, h.out.2.1.2.2.2.2.1⟩⟩

set_option maxHeartbeats 8000000 in
theorem ruleChecks_any (ex : Bool) (A : Option Addr) (c : Nat) (xs : List ByteArray) (r : Bool) (B : Option Addr) (d : Nat) (ys : List ByteArray) (t : Bool) (W : World) (h : RT W A c xs) (hz : ∀ x ∈ xs, x.size ≤ maxLen) (hg : ∀ x ∈ xs, x.size ≤ reachBytes) (k : RT W B d ys) (kz : ∀ x ∈ ys, x.size ≤ maxLen) (kg : ∀ x ∈ ys, x.size ≤ reachBytes) (hsh : W.ShapedOpen Tryd.prog) :
    Calls Tryd.prog 4 #[ruV ex A c xs r B d ys t] W fun e w' => e = .returned (.bool true) ∧ Below W.heap.size W w' := by
  unfold maxLen at hz kz
  have HI := PR.enter h k (ML.of hsh) ex r t 26
  have HFIT := Lib.hid (fun w h k m => fit_any ex A B c d xs ys r t w h k m hg kg)
  have hx1 := h.1
  have hx2 := h.2.1
  have hy1 := k.1
  have hy2 := k.2.1
  cases hf : fitB xs ys with
  | false =>
    rw [hf] at HFIT
    unfold ruV at *
    clear hsh h hz hg k kz kg hf
    go_enter Tryd.func4, Tryd.ntmps4
    go_wp2_with (first
      | (go_at_call 14; refine (HFIT.out _ (PR.x (HI.go (by repeat (first | exact Below.refl _ _ | apply Below.drew | apply below_drewN | apply below_al)))) (PR.y (HI.go (by repeat (first | exact Below.refl _ _ | apply Below.drew | apply below_drewN | apply below_al)))) (PR.m (HI.go (by repeat (first | exact Below.refl _ _ | apply Below.drew | apply below_drewN | apply below_al))))).mono ?_; rintro e w1 ⟨rfl, hb⟩; replace HI := HI.go2 (by repeat (first | exact Below.refl _ _ | apply Below.drew | apply below_drewN | apply below_al)) hb; clear hb)
      | (go_at_call 15; refine (rawake_any _ (PR.m (HI.go (by repeat (first | exact Below.refl _ _ | apply Below.drew | apply below_drewN | apply below_al))))).mono ?_; rintro e w8 ⟨rfl, hb⟩; replace HI := HI.go2 (by repeat (first | exact Below.refl _ _ | apply Below.drew | apply below_drewN | apply below_al)) hb; clear hb))
    go_ret
    exact ⟨rfl, PR.b (HI.go (by repeat (first | exact Below.refl _ _ | apply Below.drew | apply below_drewN | apply below_al)))⟩
  | true =>
    rw [hf] at HFIT
    have hf2 := hf
    unfold fitB at hf2
    rw [Bool.and_eq_true] at hf2
    have hsx := (small4_yes hf2.1).2
    have hsy := (small4_yes hf2.2).2
    have hlx := (small4_yes hf2.1).1
    have hly := (small4_yes hf2.2).1
    have HTU := Lib.hid (fun w h k m => turn_any ex A B c d xs ys r t w h k m (by omega) (by omega))
    have HTR := Lib.hid (fun w h k m => rturn_any ex A B c d xs ys r t w h k m (by omega) (by omega))
    have HCK := Lib.hid (fun w h k m => ruleCheck_any ex A B c d xs ys r t w h k m hsx hsy)
    have HRC := Lib.hid (fun w h k m => rruleCheck_any ex A B c d xs ys r t w h k m hsx hsy)
    have HSA := Lib.hid (fun A' c' B' d' C e D f w h k h' k' m => rsame_any ex A' c' ys t B' d' xs r C e D f w h k h' k' m)
    unfold RetR at HTU HTR
    unfold ruV at *
    generalize ruleE xs r ys t = nn at *
    have hnn : (nn == nn) = true := by simp
    clear hsh h hz hg k kz kg hf hsx hsy hf2
    go_enter Tryd.func4, Tryd.ntmps4
    go_wp2_with (first
      | (go_at_call 14; refine (HFIT.out _ (PR.x (HI.go (by repeat (first | exact Below.refl _ _ | apply Below.drew | apply below_drewN | apply below_al)))) (PR.y (HI.go (by repeat (first | exact Below.refl _ _ | apply Below.drew | apply below_drewN | apply below_al)))) (PR.m (HI.go (by repeat (first | exact Below.refl _ _ | apply Below.drew | apply below_drewN | apply below_al))))).mono ?_; rintro e w1 ⟨rfl, hb⟩; replace HI := HI.go2 (by repeat (first | exact Below.refl _ _ | apply Below.drew | apply below_drewN | apply below_al)) hb; clear hb; obtain ⟨p1, p2, p3, p4, p5, p6⟩ := PR.cells HI)
      | (go_at_call 20; refine (HTU.out _ (PR.x (HI.go (by repeat (first | exact Below.refl _ _ | apply Below.drew | apply below_drewN | apply below_al)))) (PR.y (HI.go (by repeat (first | exact Below.refl _ _ | apply Below.drew | apply below_drewN | apply below_al)))) (PR.m (HI.go (by repeat (first | exact Below.refl _ _ | apply Below.drew | apply below_drewN | apply below_al))))).mono ?_; rintro e w2 ⟨A', c', B', d', rfl, hr, hr2, hb⟩; replace HI := HI.go2 (by repeat (first | exact Below.refl _ _ | apply Below.drew | apply below_drewN | apply below_al)) hb; clear hb; have HQ : At (PCK W ex A c xs r B d ys t w2.heap.size A' c' B' d') (w2.alloc (.cells #[.bool ex, .slice A' ys.length c', .bool t, .slice B' xs.length d', .bool r] 26)) := ⟨PCK.kept _ _ _ _ _ _ _ _ _ _ _ _ _ _ _, (HI.go (below_alloc _ _)).out, P5.new _ _ _ _ _ _ _, hr.below (below_alloc _ _), hr2.below (below_alloc _ _)⟩; have g1 := hr.1; have g2 := hr.2.1; have g3 := hr2.1; have g4 := hr2.2.1; clear hr hr2 p1 p2 p3 p4 p5 p6 HI))
    go_region_held3 (fun w' => (w'.cell? ⟨W.heap.size, 0, none⟩ = some (.bool ex) ∧ w'.cell? ⟨W.heap.size, 1, none⟩ = some (.slice A xs.length c) ∧ w'.cell? ⟨W.heap.size, 2, none⟩ = some (.bool r) ∧ w'.cell? ⟨W.heap.size, 3, none⟩ = some (.slice B ys.length d) ∧ w'.cell? ⟨W.heap.size, 4, none⟩ = some (.bool t)) ∧ (w'.cell? ⟨w2.heap.size, 0, none⟩ = some (.bool ex) ∧ w'.cell? ⟨w2.heap.size, 1, none⟩ = some (.slice A' ys.length c') ∧ w'.cell? ⟨w2.heap.size, 2, none⟩ = some (.bool t) ∧ w'.cell? ⟨w2.heap.size, 3, none⟩ = some (.slice B' xs.length d') ∧ w'.cell? ⟨w2.heap.size, 4, none⟩ = some (.bool r)))
      ((exact PCK.cells (HQ.go (by repeat (first | exact Below.refl _ _ | apply Below.drew | apply below_drewN | apply below_al)))))
      (first
        | (go_at_call 21; refine (HCK.out _ (PR.x (PCK.pr (HQ.go (by repeat (first | exact Below.refl _ _ | apply Below.drew | apply below_drewN | apply below_al))))) (PR.y (PCK.pr (HQ.go (by repeat (first | exact Below.refl _ _ | apply Below.drew | apply below_drewN | apply below_al))))) (PR.m (PCK.pr (HQ.go (by repeat (first | exact Below.refl _ _ | apply Below.drew | apply below_drewN | apply below_al)))))).mono ?_; rintro e w3 ⟨rfl, hb⟩; replace HQ := HQ.go2 (by repeat (first | exact Below.refl _ _ | apply Below.drew | apply below_drewN | apply below_al)) hb; clear hb)
        | (go_at_call 22; refine (HRC.out _ (PR.x (PCK.pr (HQ.go (by repeat (first | exact Below.refl _ _ | apply Below.drew | apply below_drewN | apply below_al))))) (PR.y (PCK.pr (HQ.go (by repeat (first | exact Below.refl _ _ | apply Below.drew | apply below_drewN | apply below_al))))) (PR.m (PCK.pr (HQ.go (by repeat (first | exact Below.refl _ _ | apply Below.drew | apply below_drewN | apply below_al)))))).mono ?_; rintro e w4 ⟨rfl, hb⟩; replace HQ := HQ.go2 (by repeat (first | exact Below.refl _ _ | apply Below.drew | apply below_drewN | apply below_al)) hb; clear hb)
        | (go_at_call 19; refine (HTR.out _ (PR.x (PCK.pr (HQ.go (by repeat (first | exact Below.refl _ _ | apply Below.drew | apply below_drewN | apply below_al))))) (PR.y (PCK.pr (HQ.go (by repeat (first | exact Below.refl _ _ | apply Below.drew | apply below_drewN | apply below_al))))) (PR.m (PCK.pr (HQ.go (by repeat (first | exact Below.refl _ _ | apply Below.drew | apply below_drewN | apply below_al)))))).mono ?_; rintro e w5 ⟨C, e', D, f', rfl, hr, hr2, hb⟩; replace HQ := HQ.go2 (by repeat (first | exact Below.refl _ _ | apply Below.drew | apply below_drewN | apply below_al)) hb; have HN : At (fun w => RT w C e' ys ∧ RT w D f' xs) w5 := ⟨(kept_rt _ _ _).both (kept_rt _ _ _), hr, hr2⟩; have k1 := hr.1; have k2 := hr.2.1; have k3 := hr2.1; have k4 := hr2.2.1; clear hr hr2 hb)
        | (go_at_call 23; refine (HSA.out _ _ _ _ _ _ _ _ _ (HQ.go (by repeat (first | exact Below.refl _ _ | apply Below.drew | apply below_drewN | apply below_al))).out.2.2.1 (HQ.go (by repeat (first | exact Below.refl _ _ | apply Below.drew | apply below_drewN | apply below_al))).out.2.2.2 (HN.go (by repeat (first | exact Below.refl _ _ | apply Below.drew | apply below_drewN | apply below_al))).out.1 (HN.go (by repeat (first | exact Below.refl _ _ | apply Below.drew | apply below_drewN | apply below_al))).out.2 (PR.m (PCK.pr (HQ.go (by repeat (first | exact Below.refl _ _ | apply Below.drew | apply below_drewN | apply below_al)))))).mono ?_; rintro e w6 ⟨rfl, hb⟩; replace HQ := HQ.go2 (by repeat (first | exact Below.refl _ _ | apply Below.drew | apply below_drewN | apply below_al)) hb; clear hb)
        | (go_at_call 15; refine (rawake_any _ (PR.m (PCK.pr (HQ.go (by repeat (first | exact Below.refl _ _ | apply Below.drew | apply below_drewN | apply below_al)))))).mono ?_; rintro e w9 ⟨rfl, hb⟩; replace HQ := HQ.go2 (by repeat (first | exact Below.refl _ _ | apply Below.drew | apply below_drewN | apply below_al)) hb; clear hb))
    all_goals go_wp2_with fail
    all_goals go_ret
    all_goals exact ⟨rfl, PR.b (PCK.pr (HQ.go (by repeat (first | exact Below.refl _ _ | apply Below.drew | apply below_drewN | apply below_al))))⟩
end Go.Proofs.YtidjmbmnfnnleaaDoor

