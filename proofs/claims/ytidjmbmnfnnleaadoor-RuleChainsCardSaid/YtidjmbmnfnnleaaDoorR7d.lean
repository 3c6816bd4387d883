/-
  Rules: the walk of the reference's NarrowRight.
-/
import Derived.Test.YtidjmbmnfnnleaaDoorR7b
import Derived.Test.YtidjmbmnfnnleaaDoorR7c
import Derived.Deep.RegionHeld3
import Derived.Deep.DeepCutAuto
namespace Go.Proofs.YtidjmbmnfnnleaaDoor
set_option linter.unusedSimpArgs false
set_option linter.unusedVariables false
open Go.RowKit
open Pm

set_option maxHeartbeats 16000000 in
set_option maxRecDepth 100000 in
theorem rnarrowR_bad (ex : Bool) (A : Option Addr) (c : Nat) (xs : List ByteArray) (r : Bool) (B : Option Addr) (d : Nat) (ys : List ByteArray) (t : Bool) (C : Option Addr) (e : Nat) (zs : List ByteArray) (u : Bool) (w : World) (h : RT w A c xs) (k : RT w B d ys) (l : RT w C e zs) (hm : ML w)
    (hsx : ∀ x ∈ xs, x.size ≤ 5000) (hsy : ∀ x ∈ ys, x.size ≤ 5000) (hsz : ∀ x ∈ zs, x.size ≤ 5000) (hlx : xs.length ≤ 5000) (hly : ys.length ≤ 5000) (hlz : zs.length ≤ 5000) (h1 : ruleE xs r ys t ≠ 0) :
    Calls Tryd.prog 30 #[ruV ex A c xs r B d ys t, .agg #[.slice C zs.length e, .bool u]] w (RetNri w xs r ys t zs u) := by
  have HI := PNL.enter h k l hm ex r t u 26 24
  have HCK := Lib.hid (fun w h k m => rruleCheck_any ex A B c d xs ys r t w h k m hsx hsy)
  have HTU := Lib.hid (fun w h k m => rturn_any ex A B c d xs ys r t w h k m (by omega) (by omega))
  have HNL := Lib.hid (fun A1 c1 B1 d1 w k h l m => rnarrowL_any ex A1 c1 ys t B1 d1 xs r C e zs u w k h l m hsy hsx hsz hly hlz)
  have HML : Hid ((narL ys t xs r zs u).length ≤ 100000 ∧ (narR ys t xs r zs u).length ≤ 100000) := Lib.hid (nar_len hlx hly hlz)
  have hx1 := h.1
  have hx2 := h.2.1
  have hy1 := k.1
  have hy2 := k.2.1
  have hz1 := l.1
  have hz2 := l.2.1
  clear h k l hm hsx hsy hsz hlx hly hlz
  have HBAD := Lib.hid (fun e w' h => nri_bad (w := w) (e := e) (w' := w') (xs := xs) (ys := ys) (zs := zs) (r := r) (t := t) (u := u) (n := ruleE xs r ys t) (by unfold narO; rw [beq_eq_false_iff_ne.2 (fun h => h1 (ruleE_turn.1 h))]; simp) (by unfold nriE; rw [if_pos h1]) h)
  have hnB : (ruleE xs r ys t != 0) = true := by rw [bne_iff_ne]; exact h1
  unfold ruV at *
  clear h1 HNL HTU HML
  generalize ruleE xs r ys t = nr at *
  go_enter Tryd.func30, Tryd.ntmps30
  go_wp2_with (go_at_call 22; refine (HCK.out _ (HI.go (by repeat (first | exact Below.refl _ _ | apply Below.drew | apply below_drewN | apply below_al))).out.2.2.1.1 (HI.go (by repeat (first | exact Below.refl _ _ | apply Below.drew | apply below_drewN | apply below_al))).out.2.2.1.2.1 (HI.go (by repeat (first | exact Below.refl _ _ | apply Below.drew | apply below_drewN | apply below_al))).out.2.2.2.1).mono ?_; rintro e w1 ⟨rfl, hb⟩; replace HI := HI.go2 (by repeat (first | exact Below.refl _ _ | apply Below.drew | apply below_drewN | apply below_al)) hb; clear hb; obtain ⟨⟨⟨p1, p2, p3, p4, p5, p6⟩, ⟨q1, q2, q3, q4, q5⟩⟩, ⟨⟨s0, s1, s2, s3, s4, s5⟩, ⟨f0, f1, f2, f3, f4, f5⟩⟩⟩ := PNL.cells HI)
  refine bodyPost_ret (v := .tuple #[.agg #[.bool false, .slice none 0 0, .bool false, .slice none 0 0, .bool false], .bool false, .int .i64 nr]) (by simp [results, Tryd.results30, go_sem, s0, s1, s2, s3, s4, s5, f0, f1, f2, f3, f4]) rfl (HBAD.out _ _ ⟨none, 0, none, 0, rfl, RT.nil _ _ _ (by omega), RT.nil _ _ _ (by omega), ?_⟩)
  exact below_set5 HI.out.2.2.2.2 (by omega) _ _ _ _ _
theorem rnarrowR_any (ex : Bool) (A : Option Addr) (c : Nat) (xs : List ByteArray) (r : Bool) (B : Option Addr) (d : Nat) (ys : List ByteArray) (t : Bool) (C : Option Addr) (e : Nat) (zs : List ByteArray) (u : Bool) (w : World) (h : RT w A c xs) (k : RT w B d ys) (l : RT w C e zs) (hm : ML w)
    (hsx : ∀ x ∈ xs, x.size ≤ 5000) (hsy : ∀ x ∈ ys, x.size ≤ 5000) (hsz : ∀ x ∈ zs, x.size ≤ 5000) (hlx : xs.length ≤ 5000) (hly : ys.length ≤ 5000) (hlz : zs.length ≤ 5000) :
    Calls Tryd.prog 30 #[ruV ex A c xs r B d ys t, .agg #[.slice C zs.length e, .bool u]] w (RetNri w xs r ys t zs u) := by
  by_cases h1 : ruleE xs r ys t = 0
  · cases ho : narO ys t xs r zs u with
    | true => exact rnarrowR_ok ex A c xs r B d ys t C e zs u w h k l hm hsx hsy hsz hlx hly hlz h1 ho
    | false => exact rnarrowR_no ex A c xs r B d ys t C e zs u w h k l hm hsx hsy hsz hlx hly hlz h1 ho
  · exact rnarrowR_bad ex A c xs r B d ys t C e zs u w h k l hm hsx hsy hsz hlx hly hlz h1
end Go.Proofs.YtidjmbmnfnnleaaDoor

