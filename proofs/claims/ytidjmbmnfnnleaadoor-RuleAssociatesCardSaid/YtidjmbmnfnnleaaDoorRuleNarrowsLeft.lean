/-
  RuleNarrowsLeft returns true.
-/
import Derived.Test.YtidjmbmnfnnleaaDoorMT
import Derived.Test.YtidjmbmnfnnleaaDoorRuleChecks
namespace Go.Proofs.YtidjmbmnfnnleaaDoor
set_option linter.unusedSimpArgs false
set_option linter.unusedVariables false
open Go.RowKit
open Pm

/-- a rule and a pattern in boxes -/
def PRP (W : World) (ex : Bool) (A : Option Addr) (c : Nat) (xs : List ByteArray) (r : Bool) (B : Option Addr) (d : Nat) (ys : List ByteArray) (t : Bool) (C : Option Addr) (e : Nat) (zs : List ByteArray) (u : Bool) (w : World) : Prop :=
  (P5 w W.heap.size (.bool ex) (.slice A xs.length c) (.bool r) (.slice B ys.length d) (.bool t) ∧ PX w (W.heap.size + 1) (.slice C zs.length e) (.bool u)) ∧ (RT w A c xs ∧ RT w B d ys ∧ RT w C e zs) ∧ ML w ∧ Below W.heap.size W w
theorem PRP.kept (W : World) (ex : Bool) (A : Option Addr) (c : Nat) (xs : List ByteArray) (r : Bool) (B : Option Addr) (d : Nat) (ys : List ByteArray) (t : Bool) (C : Option Addr) (e : Nat) (zs : List ByteArray) (u : Bool) : Kept (PRP W ex A c xs r B d ys t C e zs u) :=
  ((kept_p5 _ _ _ _ _ _).both (kept_px _ _ _)).both (((kept_rt _ _ _).both ((kept_rt _ _ _).both (kept_rt _ _ _))).both (kept_ml.both (kept_below _)))
theorem PRP.enter {W : World} {A : Option Addr} {c : Nat} {xs : List ByteArray} {B : Option Addr} {d : Nat} {ys : List ByteArray} {C : Option Addr} {e : Nat} {zs : List ByteArray} (h : RT W A c xs) (k : RT W B d ys) (l : RT W C e zs) (m : ML W) (ex r t u : Bool) (T U : TypeId) :
    At (PRP W ex A c xs r B d ys t C e zs u) ((W.alloc (.cells #[.bool ex, .slice A xs.length c, .bool r, .slice B ys.length d, .bool t] T)).alloc (.cells #[.slice C zs.length e, .bool u] U)) := by
  have hb : Below W.heap.size W ((W.alloc (.cells #[.bool ex, .slice A xs.length c, .bool r, .slice B ys.length d, .bool t] T)).alloc (.cells #[.slice C zs.length e, .bool u] U)) := by repeat (first | exact Below.refl _ _ | apply below_al)
  exact ⟨PRP.kept _ _ _ _ _ _ _ _ _ _ _ _ _ _, ⟨(kept_p5 _ _ _ _ _ _) _ _ (P5.new W _ _ _ _ _ _) (below_alloc _ _), PX.nw (by simp)⟩, ⟨h.below hb, k.below hb, l.below hb⟩, m.below hb, hb⟩

set_option maxHeartbeats 8000000 in
theorem ruleNarrowsLeft_any (ex : Bool) (A : Option Addr) (c : Nat) (xs : List ByteArray) (r : Bool) (B : Option Addr) (d : Nat) (ys : List ByteArray) (t : Bool) (C : Option Addr) (e : Nat) (zs : List ByteArray) (u : Bool) (W : World) (h : RT W A c xs) (hz : ∀ x ∈ xs, x.size ≤ maxLen) (hg : ∀ x ∈ xs, x.size ≤ reachBytes) (k : RT W B d ys) (kz : ∀ x ∈ ys, x.size ≤ maxLen) (kg : ∀ x ∈ ys, x.size ≤ reachBytes) (l : RT W C e zs) (lz : ∀ x ∈ zs, x.size ≤ maxLen) (lg : ∀ x ∈ zs, x.size ≤ reachBytes) (hsh : W.ShapedOpen Tryd.prog) :
    Calls Tryd.prog 6 #[ruV ex A c xs r B d ys t, .agg #[.slice C zs.length e, .bool u]] W fun e w' => e = .returned (.bool true) ∧ Below W.heap.size W w' := by
  unfold maxLen at hz kz lz
  have HI := PRP.enter h k l (ML.of hsh) ex r t u 26 24
  have HFIT := Lib.hid (fun w h k m => fit_any ex A B c d xs ys r t w h k m hg kg)
  have HSM := Lib.hid (fun w l => small4_any C e zs u w l lg)
  have hx1 := h.1
  have hx2 := h.2.1
  have hy1 := k.1
  have hy2 := k.2.1
  have hz1 := l.1
  have hz2 := l.2.1
  cases hf : fitB xs ys with
  | false =>
    rw [hf] at HFIT
    unfold ruV at *
    clear hsh h hz hg k kz kg hf l lz lg
    go_enter Tryd.func6, Tryd.ntmps6
    go_wp2_with (first
      | (go_at_call 14; refine (HFIT.out _ (HI.go (by repeat (first | exact Below.refl _ _ | apply Below.drew | apply below_drewN | apply below_al))).out.2.1.1 (HI.go (by repeat (first | exact Below.refl _ _ | apply Below.drew | apply below_drewN | apply below_al))).out.2.1.2.1 (HI.go (by repeat (first | exact Below.refl _ _ | apply Below.drew | apply below_drewN | apply below_al))).out.2.2.1).mono ?_; rintro e w1 ⟨rfl, hb⟩; replace HI := HI.go2 (by repeat (first | exact Below.refl _ _ | apply Below.drew | apply below_drewN | apply below_al)) hb; clear hb; obtain ⟨⟨p1, p2, p3, p4, p5, p6⟩, ⟨q1, q2, q3, q4, q5⟩⟩ := HI.out.1)
      | (go_at_call 24; refine (HSM.out _ (HI.go (by repeat (first | exact Below.refl _ _ | apply Below.drew | apply below_drewN | apply below_al))).out.2.1.2.2).mono ?_; rintro e w1 ⟨rfl, hb⟩; replace HI := HI.go2 (by repeat (first | exact Below.refl _ _ | apply Below.drew | apply below_drewN | apply below_al)) hb; clear hb)
      | (go_at_call 15; refine (rawake_any _ (HI.go (by repeat (first | exact Below.refl _ _ | apply Below.drew | apply below_drewN | apply below_al))).out.2.2.1).mono ?_; rintro e w8 ⟨rfl, hb⟩; replace HI := HI.go2 (by repeat (first | exact Below.refl _ _ | apply Below.drew | apply below_drewN | apply below_al)) hb; clear hb))
    go_ret
    exact ⟨rfl, (HI.go (by repeat (first | exact Below.refl _ _ | apply Below.drew | apply below_drewN | apply below_al))).out.2.2.2⟩
  | true =>
    rw [hf] at HFIT
    cases hs : small4B zs with
    | false =>
      rw [hs] at HSM
      unfold ruV at *
      clear hsh h hz hg k kz kg hf l lz lg hs
      go_enter Tryd.func6, Tryd.ntmps6
      go_wp2_with (first
        | (go_at_call 14; refine (HFIT.out _ (HI.go (by repeat (first | exact Below.refl _ _ | apply Below.drew | apply below_drewN | apply below_al))).out.2.1.1 (HI.go (by repeat (first | exact Below.refl _ _ | apply Below.drew | apply below_drewN | apply below_al))).out.2.1.2.1 (HI.go (by repeat (first | exact Below.refl _ _ | apply Below.drew | apply below_drewN | apply below_al))).out.2.2.1).mono ?_; rintro e w1 ⟨rfl, hb⟩; replace HI := HI.go2 (by repeat (first | exact Below.refl _ _ | apply Below.drew | apply below_drewN | apply below_al)) hb; clear hb; obtain ⟨⟨p1, p2, p3, p4, p5, p6⟩, ⟨q1, q2, q3, q4, q5⟩⟩ := HI.out.1)
        | (go_at_call 24; refine (HSM.out _ (HI.go (by repeat (first | exact Below.refl _ _ | apply Below.drew | apply below_drewN | apply below_al))).out.2.1.2.2).mono ?_; rintro e w1 ⟨rfl, hb⟩; replace HI := HI.go2 (by repeat (first | exact Below.refl _ _ | apply Below.drew | apply below_drewN | apply below_al)) hb; clear hb)
        | (go_at_call 15; refine (rawake_any _ (HI.go (by repeat (first | exact Below.refl _ _ | apply Below.drew | apply below_drewN | apply below_al))).out.2.2.1).mono ?_; rintro e w8 ⟨rfl, hb⟩; replace HI := HI.go2 (by repeat (first | exact Below.refl _ _ | apply Below.drew | apply below_drewN | apply below_al)) hb; clear hb))
      go_ret
      exact ⟨rfl, (HI.go (by repeat (first | exact Below.refl _ _ | apply Below.drew | apply below_drewN | apply below_al))).out.2.2.2⟩
    | true =>
      rw [hs] at HSM
      have hf2 := hf
      unfold fitB at hf2
      rw [Bool.and_eq_true] at hf2
      have hsx := (small4_yes hf2.1).2
      have hsy := (small4_yes hf2.2).2
      have hsz := (small4_yes hs).2
      have hlx := (small4_yes hf2.1).1
      have hly := (small4_yes hf2.2).1
      have hlz := (small4_yes hs).1
      have HN1 := Lib.hid (fun w h k l m => narrowL_any ex A c xs r B d ys t C e zs u w h k l m hsx hsy hsz (by omega) (by omega))
      have HN2 := Lib.hid (fun w h k l m => rnarrowL_any ex A c xs r B d ys t C e zs u w h k l m hsx hsy hsz (by omega) (by omega))
      have HSA := Lib.hid (fun L l R q A' c' B' d' C e D f w h k h' k' m => rsame_any false A' c' L l B' d' R q C e D f w h k h' k' m)
      unfold RetNar RetN at HN1 HN2
      unfold ruV at *
      generalize narL xs r ys t zs u = L at *
      generalize narLr xs r ys t zs u = ll at *
      generalize narR xs r ys t zs u = R at *
      generalize narRr xs r ys t zs u = rr at *
      generalize narO xs r ys t zs u = ok at *
      generalize narE xs r ys t zs u = ne at *
      have hnn : (ne == ne) = true := by simp
      have hkk : (ok == ok) = true := by simp
      clear hsh h hz hg k kz kg hf l lz lg hs hsx hsy hsz hlx hly hlz hf2
      go_enter Tryd.func6, Tryd.ntmps6
      go_wp2_with (first
        | (go_at_call 14; refine (HFIT.out _ (HI.go (by repeat (first | exact Below.refl _ _ | apply Below.drew | apply below_drewN | apply below_al))).out.2.1.1 (HI.go (by repeat (first | exact Below.refl _ _ | apply Below.drew | apply below_drewN | apply below_al))).out.2.1.2.1 (HI.go (by repeat (first | exact Below.refl _ _ | apply Below.drew | apply below_drewN | apply below_al))).out.2.2.1).mono ?_; rintro e w1 ⟨rfl, hb⟩; replace HI := HI.go2 (by repeat (first | exact Below.refl _ _ | apply Below.drew | apply below_drewN | apply below_al)) hb; clear hb; obtain ⟨⟨p1, p2, p3, p4, p5, p6⟩, ⟨q1, q2, q3, q4, q5⟩⟩ := HI.out.1)
        | (go_at_call 24; refine (HSM.out _ (HI.go (by repeat (first | exact Below.refl _ _ | apply Below.drew | apply below_drewN | apply below_al))).out.2.1.2.2).mono ?_; rintro e w2 ⟨rfl, hb⟩; replace HI := HI.go2 (by repeat (first | exact Below.refl _ _ | apply Below.drew | apply below_drewN | apply below_al)) hb; clear hb; obtain ⟨⟨p1, p2, p3, p4, p5, p6⟩, ⟨q1, q2, q3, q4, q5⟩⟩ := HI.out.1)
        | (go_at_call 25; refine (HN1.out _ (HI.go (by repeat (first | exact Below.refl _ _ | apply Below.drew | apply below_drewN | apply below_al))).out.2.1.1 (HI.go (by repeat (first | exact Below.refl _ _ | apply Below.drew | apply below_drewN | apply below_al))).out.2.1.2.1 (HI.go (by repeat (first | exact Below.refl _ _ | apply Below.drew | apply below_drewN | apply below_al))).out.2.1.2.2 (HI.go (by repeat (first | exact Below.refl _ _ | apply Below.drew | apply below_drewN | apply below_al))).out.2.2.1).mono ?_; rintro e w3 ⟨D, m, E, n, rfl, hr, hr2, hb⟩; replace HI := HI.go2 (by repeat (first | exact Below.refl _ _ | apply Below.drew | apply below_drewN | apply below_al)) hb; clear hb; have HD := At.prb (ex := false) (l := ll) (q := rr) hr hr2; have d1 := hr.1; have d2 := hr.2.1; have d3 := hr2.1; have d4 := hr2.2.1; clear hr hr2; obtain ⟨⟨p1, p2, p3, p4, p5, p6⟩, ⟨q1, q2, q3, q4, q5⟩⟩ := HI.out.1)
        | (go_at_call 26; refine (HN2.out _ (HI.go (by repeat (first | exact Below.refl _ _ | apply Below.drew | apply below_drewN | apply below_al))).out.2.1.1 (HI.go (by repeat (first | exact Below.refl _ _ | apply Below.drew | apply below_drewN | apply below_al))).out.2.1.2.1 (HI.go (by repeat (first | exact Below.refl _ _ | apply Below.drew | apply below_drewN | apply below_al))).out.2.1.2.2 (HI.go (by repeat (first | exact Below.refl _ _ | apply Below.drew | apply below_drewN | apply below_al))).out.2.2.1).mono ?_; rintro e w4 ⟨F, i, G, j, rfl, hr, hr2, hb⟩; replace HD := HD.go2 (by repeat (first | exact Below.refl _ _ | apply Below.drew | apply below_drewN | apply below_al)) hb; replace HI := HI.go2 (by repeat (first | exact Below.refl _ _ | apply Below.drew | apply below_drewN | apply below_al)) hb; clear hb; have HF := At.prb (ex := false) (l := ll) (q := rr) hr hr2; have e1 := hr.1; have e2 := hr.2.1; have e3 := hr2.1; have e4 := hr2.2.1; clear hr hr2; obtain ⟨⟨p1, p2, p3, p4, p5, p6⟩, ⟨q1, q2, q3, q4, q5⟩⟩ := HI.out.1; obtain ⟨s1, s2, s3, s4, s5, s6⟩ := HD.out.1)
        | (go_at_call 23; refine (HSA.out _ _ _ _ _ _ _ _ _ _ _ _ _ (HD.go (by repeat (first | exact Below.refl _ _ | apply Below.drew | apply below_drewN | apply below_al))).out.2.1 (HD.go (by repeat (first | exact Below.refl _ _ | apply Below.drew | apply below_drewN | apply below_al))).out.2.2 (HF.go (by repeat (first | exact Below.refl _ _ | apply Below.drew | apply below_drewN | apply below_al))).out.2.1 (HF.go (by repeat (first | exact Below.refl _ _ | apply Below.drew | apply below_drewN | apply below_al))).out.2.2 (HI.go (by repeat (first | exact Below.refl _ _ | apply Below.drew | apply below_drewN | apply below_al))).out.2.2.1).mono ?_; rintro e w5 ⟨rfl, hb⟩; replace HI := HI.go2 (by repeat (first | exact Below.refl _ _ | apply Below.drew | apply below_drewN | apply below_al)) hb; clear hb)
        | (go_at_call 15; refine (rawake_any _ (HI.go (by repeat (first | exact Below.refl _ _ | apply Below.drew | apply below_drewN | apply below_al))).out.2.2.1).mono ?_; rintro e w8 ⟨rfl, hb⟩; replace HI := HI.go2 (by repeat (first | exact Below.refl _ _ | apply Below.drew | apply below_drewN | apply below_al)) hb; clear hb))
      go_ret
      exact ⟨rfl, (HI.go (by repeat (first | exact Below.refl _ _ | apply Below.drew | apply below_drewN | apply below_al))).out.2.2.2⟩
end Go.Proofs.YtidjmbmnfnnleaaDoor

