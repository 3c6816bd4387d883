/-
  Rules: the walk of the reference's NarrowRight.
-/
import Derived.Test.YtidjmbmnfnnleaaDoorR7b0
import Derived.Deep.RegionHeld3
import Derived.Deep.DeepCutAuto
namespace Go.Proofs.YtidjmbmnfnnleaaDoor
set_option linter.unusedSimpArgs false
set_option linter.unusedVariables false
open Go.RowKit
open Pm

set_option maxHeartbeats 16000000 in
set_option maxRecDepth 100000 in
theorem rnarrowR_ok (ex : Bool) (A : Option Addr) (c : Nat) (xs : List ByteArray) (r : Bool) (B : Option Addr) (d : Nat) (ys : List ByteArray) (t : Bool) (C : Option Addr) (e : Nat) (zs : List ByteArray) (u : Bool) (w : World) (h : RT w A c xs) (k : RT w B d ys) (l : RT w C e zs) (hm : ML w)
    (hsx : ∀ x ∈ xs, x.size ≤ 5000) (hsy : ∀ x ∈ ys, x.size ≤ 5000) (hsz : ∀ x ∈ zs, x.size ≤ 5000) (hlx : xs.length ≤ 5000) (hly : ys.length ≤ 5000) (hlz : zs.length ≤ 5000) (h1 : ruleE xs r ys t = 0) (ho : narO ys t xs r zs u = true) :
    Calls Tryd.prog 30 #[ruV ex A c xs r B d ys t, .agg #[.slice C zs.length e, .bool u]] w (RetNri w xs r ys t zs u) := by
  have HI := PNL.enter h k l hm ex r t u 26 24
  have HCK := Lib.hid (fun w h k m => rruleCheck_any ex A B c d xs ys r t w h k m hsx hsy)
  have HTU := Lib.hid (fun w h k m => rturn_any ex A B c d xs ys r t w h k m (by omega) (by omega))
  have HNL := Lib.hid (fun A1 c1 B1 d1 w k h l m => rnarrowL_any ex A1 c1 ys t B1 d1 xs r C e zs u w k h l m hsy hsx hsz hly hlz)
  have HML : Hid ((narL ys t xs r zs u).length ≤ 100000 ∧ (narR ys t xs r zs u).length ≤ 100000) := Lib.hid (nar_len hlx hly hlz)
  have hx1 := h.1
  have hx2 := h.2.1
  have hy1 := k.1
  have hy2 := k.2.1
  have hz1 := l.1
  have hz2 := l.2.1
  clear h k l hm hsx hsy hsz hlx hly hlz
  have HE : Hid (nriE xs r ys t zs u = narE ys t xs r zs u) := Lib.hid (by unfold nriE; rw [if_neg (by simp [h1])])
  rw [h1] at HCK
  unfold RetNri
  rw [HE.out]
  have HNZ := nar_e0 ho
  have HTV := Lib.hid (fun D m E n w h k m' => rturn_any false D E m n (narL ys t xs r zs u) (narR ys t xs r zs u) (narLr ys t xs r zs u) (narRr ys t xs r zs u) w h k m' HML.out.1 HML.out.2)
  unfold RetNar RetN ruV at HNL
  unfold RetR at HTU HTV
  unfold ruV at *
  rw [ho, HNZ] at HNL
  rw [ho, HNZ]
  clear HE h1 HML ho HNZ
  generalize narL ys t xs r zs u = L at *
  generalize narLr ys t xs r zs u = ll at *
  generalize narR ys t xs r zs u = R at *
  generalize narRr ys t xs r zs u = rr at *
  go_enter Tryd.func30, Tryd.ntmps30
  go_wp2_with (go_at_call 22; refine (HCK.out _ (HI.go (by repeat (first | exact Below.refl _ _ | apply Below.drew | apply below_drewN | apply below_al))).out.2.2.1.1 (HI.go (by repeat (first | exact Below.refl _ _ | apply Below.drew | apply below_drewN | apply below_al))).out.2.2.1.2.1 (HI.go (by repeat (first | exact Below.refl _ _ | apply Below.drew | apply below_drewN | apply below_al))).out.2.2.2.1).mono ?_; rintro e w1 ⟨rfl, hb⟩; replace HI := HI.go2 (by repeat (first | exact Below.refl _ _ | apply Below.drew | apply below_drewN | apply below_al)) hb; clear hb; obtain ⟨⟨a0, a1, a2, a3, a4⟩, a5, a6⟩ := PNL.held HI)
  have HB := Lib.hid (Below.refl w1.heap.size w1)
  go_upto_region 4 with fail
  go_cut [8, 9, 10] (fun s8 s9 s10 wx => ∃ (g : Nat) (D E : Option Addr) (m n : Nat), s8 = .pointer (some ⟨g, 0, none⟩) ∧ s9 = .bool true ∧ s10 = .int .i64 0 ∧ P5 wx g (.bool false) (.slice D L.length m) (.bool ll) (.slice E R.length n) (.bool rr) ∧ RT wx D m L ∧ RT wx E n R ∧ At (PNL w ex A c xs r B d ys t C e zs u) wx)
  case first =>
    go_region_held3 (fun w' => ((w'.cell? ⟨w.heap.size, 0, none⟩ = some (.bool ex) ∧ w'.cell? ⟨w.heap.size, 1, none⟩ = some (.slice A xs.length c) ∧ w'.cell? ⟨w.heap.size, 2, none⟩ = some (.bool r) ∧ w'.cell? ⟨w.heap.size, 3, none⟩ = some (.slice B ys.length d) ∧ w'.cell? ⟨w.heap.size, 4, none⟩ = some (.bool t)) ∧ w'.cell? ⟨w.heap.size + 1, 0, none⟩ = some (.slice C zs.length e) ∧ w'.cell? ⟨w.heap.size + 1, 1, none⟩ = some (.bool u)) ∧ Hid (Below w1.heap.size w1 w'))
      ((exact ⟨PNL.held (HI.go (by repeat (first | exact HB.out | apply Below.drew | apply below_drewN | apply below_al | (refine below_set ?_ _ (by first | exact Nat.le_refl _ | (simp; omega) | (simp <;> omega) | omega) _)))), Lib.hid (by repeat (first | exact HB.out | apply Below.drew | apply below_drewN | apply below_al | (refine below_set ?_ _ (by first | exact Nat.le_refl _ | (simp; omega) | (simp <;> omega) | omega) _)))⟩))
      (first
        | (go_at_call 19; refine (HTU.out _ (PNL.out (HI.go (by repeat (first | exact HB.out | apply Below.drew | apply below_drewN | apply below_al | (refine below_set ?_ _ (by first | exact Nat.le_refl _ | (simp; omega) | (simp <;> omega) | omega) _))))).1.1 (PNL.out (HI.go (by repeat (first | exact HB.out | apply Below.drew | apply below_drewN | apply below_al | (refine below_set ?_ _ (by first | exact Nat.le_refl _ | (simp; omega) | (simp <;> omega) | omega) _))))).1.2.1 (PNL.out (HI.go (by repeat (first | exact HB.out | apply Below.drew | apply below_drewN | apply below_al | (refine below_set ?_ _ (by first | exact Nat.le_refl _ | (simp; omega) | (simp <;> omega) | omega) _))))).2).mono ?_; rintro e w2 ⟨A1, c1, B1, d1, rfl, hr, hr2, hb⟩; replace HB := Lib.hid (go4 (w := w1) (by repeat (first | exact HB.out | apply Below.drew | apply below_drewN | apply below_al | (refine below_set ?_ _ (by first | exact Nat.le_refl _ | (simp; omega) | (simp <;> omega) | omega) _))) hb); have hz1 := hb.size; (try simp at hz1); (try (have l1 : w1.heap.size < w2.heap.size := by omega)); have HQ1 := Lib.hid (QB5.carry (w := w1) (by repeat (first | with_reducible exact QB5.refl _ | with_reducible apply QB5.drew | with_reducible apply QB5.alloc)) hb); have hZ := HQ1.out w1.heap.size (Nat.le_refl _); (try simp at hZ); (try (unfold Z5 P5 F5 at hZ; obtain ⟨⟨z0, z1, z2, z3, z4, z5⟩, ⟨y0, y1, y2, y3, y4, y5⟩⟩ := hZ)); have HT := Lib.hid hr; have HT2 := Lib.hid hr2; have t1 := hr.1; have t2 := hr.2.1; have t3 := hr2.1; have t4 := hr2.2.1; clear hr hr2 hb)
        | (go_at_call 26; refine (HNL.out _ _ _ _ _ (HT.out.below (by repeat (first | exact Below.refl _ _ | apply Below.drew | apply below_drewN | apply below_al))) (HT2.out.below (by repeat (first | exact Below.refl _ _ | apply Below.drew | apply below_drewN | apply below_al))) (PNL.out (HI.go (by repeat (first | exact HB.out | apply Below.drew | apply below_drewN | apply below_al | (refine below_set ?_ _ (by first | exact Nat.le_refl _ | (simp; omega) | (simp <;> omega) | omega) _))))).1.2.2 (PNL.out (HI.go (by repeat (first | exact HB.out | apply Below.drew | apply below_drewN | apply below_al | (refine below_set ?_ _ (by first | exact Nat.le_refl _ | (simp; omega) | (simp <;> omega) | omega) _))))).2).mono ?_; rintro e w4 ⟨D, m, E, n, rfl, hr, hr2, hb⟩; replace HB := Lib.hid (go4 (w := w1) (by repeat (first | exact HB.out | apply Below.drew | apply below_drewN | apply below_al | (refine below_set ?_ _ (by first | exact Nat.le_refl _ | (simp; omega) | (simp <;> omega) | omega) _))) hb); have hz2 := hb.size; (try simp at hz2); (try (have l2 : w1.heap.size < w4.heap.size := by omega)); (try (have l3 : w2.heap.size < w4.heap.size := by omega)); have HQ2 := Lib.hid (QB5.carry (w := w2) (by repeat (first | with_reducible exact QB5.refl _ | with_reducible apply QB5.drew | with_reducible apply QB5.alloc)) hb); have HQ3 := Lib.hid (QZ3 HQ1.out (go4 (w := w2) (by repeat (first | exact Below.refl _ _ | apply Below.drew | apply below_drewN | apply below_al)) hb)); have hZ := HQ3.out w1.heap.size (Nat.le_refl _); (try simp at hZ); (try (unfold Z5 P5 F5 at hZ; obtain ⟨⟨z0, z1, z2, z3, z4, z5⟩, ⟨y0, y1, y2, y3, y4, y5⟩⟩ := hZ)); have hZ := HQ2.out w2.heap.size (Nat.le_refl _); (try simp at hZ); (try (unfold Z5 P5 F5 at hZ; obtain ⟨⟨z0, z1, z2, z3, z4, z5⟩, ⟨y0, y1, y2, y3, y4, y5⟩⟩ := hZ)); have HD := Lib.hid hr; have HE2 := Lib.hid hr2; have d1 := hr.1; have d2 := hr.2.1; have d3 := hr2.1; have d4 := hr2.2.1; clear hr hr2 hb))
    all_goals
      go_wp2_with fail
      go_meet
      first
      | (refine ⟨w1.heap.size, D, E, m, n, by with_reducible rfl, rfl, rfl, ?_⟩
         exact ⟨(HQ3.out _ (Nat.le_refl _) (by simp <;> omega)).1.put _ _ _ _ _, HD.out.set5 (HQ3.out _ (Nat.le_refl _) (by simp <;> omega)).1 (bool_ns _) (slice_ns _ _ _) (bool_ns _) (slice_ns _ _ _) (bool_ns _) _ _ _ _ _, HE2.out.set5 (HQ3.out _ (Nat.le_refl _) (by simp <;> omega)).1 (bool_ns _) (slice_ns _ _ _) (bool_ns _) (slice_ns _ _ _) (bool_ns _) _ _ _ _ _, HI.go (below_set5 HB.out (Nat.le_refl _) _ _ _ _ _)⟩)
      | (refine ⟨w2.heap.size, D, E, m, n, by with_reducible rfl, rfl, rfl, ?_⟩
         exact ⟨(HQ2.out _ (Nat.le_refl _) (by simp <;> omega)).1.put _ _ _ _ _, HD.out.set5 (HQ2.out _ (Nat.le_refl _) (by simp <;> omega)).1 (bool_ns _) (slice_ns _ _ _) (bool_ns _) (slice_ns _ _ _) (bool_ns _) _ _ _ _ _, HE2.out.set5 (HQ2.out _ (Nat.le_refl _) (by simp <;> omega)).1 (bool_ns _) (slice_ns _ _ _) (bool_ns _) (slice_ns _ _ _) (bool_ns _) _ _ _ _ _, HI.go (below_set5 HB.out (by omega) _ _ _ _ _)⟩)
      | (refine ⟨w4.heap.size, D, E, m, n, by with_reducible rfl, rfl, rfl, ?_⟩
         exact ⟨P5.new _ _ _ _ _ _ _, HD.out.below (below_alloc _ _), HE2.out.below (below_alloc _ _), HI.go (below_al HB.out _)⟩)
  case rest =>
    obtain ⟨g, D, E, m, n, rfl, rfl, rfl, HP, HDR, HER, HJ⟩ := hcut
    obtain ⟨z0, z1, z2, z3, z4, z5⟩ := HP
    obtain ⟨⟨s0, s1, s2, s3, s4, s5⟩, ⟨f0, f1, f2, f3, f4, f5⟩⟩ := HJ.out.2.1
    have hd1 := HDR.1
    have hd2 := HDR.2.1
    have hd3 := HER.1
    have hd4 := HER.2.1
    have HDE : At (fun w => RT w D m L ∧ RT w E n R) wc := ⟨(kept_rt _ _ _).both (kept_rt _ _ _), HDR, HER⟩
    clear HDR HER
    go_wp2_with (go_at_call 19; refine (HTV.out _ _ _ _ _ (HDE.go (by repeat (first | exact Below.refl _ _ | apply Below.drew | apply below_drewN | apply below_al))).out.1 (HDE.go (by repeat (first | exact Below.refl _ _ | apply Below.drew | apply below_drewN | apply below_al))).out.2 (PNL.out (HJ.go (by repeat (first | exact Below.refl _ _ | apply Below.drew | apply below_drewN | apply below_al)))).2).mono ?_; rintro e w5 ⟨A5, c5, B5, d5, rfl, hr, hr2, hb⟩; replace HJ := HJ.go2 (by repeat (first | exact Below.refl _ _ | apply Below.drew | apply below_drewN | apply below_al)) hb; have HR1 := Lib.hid hr; have HR2 := Lib.hid hr2; obtain ⟨⟨s0, s1, s2, s3, s4, s5⟩, ⟨f0, f1, f2, f3, f4, f5⟩⟩ := HJ.out.2.1; clear hr hr2 hb)
    refine bodyPost_ret (v := .tuple #[.agg #[.bool false, .slice A5 R.length c5, .bool rr, .slice B5 L.length d5, .bool ll], .bool true, .int .i64 0]) (by simp [results, Tryd.results30, go_sem, s0, s1, s2, s3, s4, s5, f0, f1, f2, f3, f4]) rfl ⟨A5, c5, B5, d5, rfl, ?_, ?_, ?_⟩
    · exact HR1.out.set5 HJ.out.2.1.1 (bool_ns _) (slice_ns _ _ _) (bool_ns _) (slice_ns _ _ _) (bool_ns _) _ _ _ _ _
    · exact HR2.out.set5 HJ.out.2.1.1 (bool_ns _) (slice_ns _ _ _) (bool_ns _) (slice_ns _ _ _) (bool_ns _) _ _ _ _ _
    · exact below_set5 HJ.out.2.2.2.2 (by omega) _ _ _ _ _
end Go.Proofs.YtidjmbmnfnnleaaDoor

