/-
  PatternLaminar returns true.
-/
import Derived.Test.YtofmngfmoagenaaDoorQ22
import Derived.Test.YtofmngfmoagenaaDoorQ23
namespace Go.Proofs.YtofmngfmoagenaaDoor
set_option linter.unusedSimpArgs false
set_option linter.unusedVariables false
open Go.RowKit
open Pm

theorem RT.two (w : World) (x y : ByteArray) (t : TypeId) : RT (w.alloc (.cells #[.string x, .string y] t)) (some ⟨w.heap.size, 0, none⟩) 2 [x, y] :=
  ⟨Nat.le_refl _, by omega, fun _ => ⟨w.heap.size, 0, rfl, by simp, fun j z hj => by
    rcases j with _ | _ | j
    · simp at hj
      subst hj
      simp [World.cell?_alloc_new]
    · simp at hj
      subst hj
      simp [World.cell?_alloc_new]
    · simp at hj⟩⟩
abbrev aB : ByteArray := ⟨#[97]⟩
theorem nrw_self (a : ByteArray) : insB a a = true ∧ nrw a a = a ∧ nrwOk a a = true := by
  have h : insB a a = true := by unfold insB; rw [if_pos rfl]
  refine ⟨h, ?_, ?_⟩
  · unfold nrw; rw [if_pos h]
  · unfold nrwOk; rw [h]; rfl
theorem lam_meet (x y : ByteArray) : meetL [aB, x] [aB, y] = [aB, nrw x y] := by
  unfold meetL mzAll
  simp [(nrw_self aB).2.1]
theorem lam_ok {x y : ByteArray} (hx : checkP [aB, x] false = 0) (hy : checkP [aB, y] false = 0) : meetOk [aB, x] [aB, y] false false = nrwOk x y := by
  unfold meetOk compatB okOf
  rw [hx, hy]
  simp [(nrw_self aB).2.2]
theorem lam_in {x y : ByteArray} (hx : checkP [aB, x] false = 0) (hy : checkP [aB, y] false = 0) : withinOk insB [aB, x] [aB, y] false false = insB x y := by
  unfold withinOk insideOk lensIn okOf
  rw [hx, hy]
  simp [(nrw_self aB).1]

/-- the two patterns of the statement, in their boxes -/
def PL (W : World) (x y : ByteArray) (w : World) : Prop :=
  PX w (W.heap.size + 1 + 1) (.slice (some ⟨W.heap.size, 0, none⟩) 2 2) (.bool false) ∧ PX w (W.heap.size + 1 + 1 + 1) (.slice (some ⟨W.heap.size + 1, 0, none⟩) 2 2) (.bool false) ∧
    RT w (some ⟨W.heap.size, 0, none⟩) 2 [aB, x] ∧ RT w (some ⟨W.heap.size + 1, 0, none⟩) 2 [aB, y] ∧ ML w ∧ Below W.heap.size W w
theorem PL.kept (W : World) (x y : ByteArray) : Kept (PL W x y) :=
  (kept_px _ _ _).both ((kept_px _ _ _).both ((kept_rt _ _ _).both ((kept_rt _ _ _).both (kept_ml.both (kept_below W)))))
theorem PL.enter {W : World} (x y : ByteArray) (m : ML W) (T U : TypeId) :
    At (PL W x y) ((((W.alloc (.cells #[.string aB, .string x] U)).alloc (.cells #[.string aB, .string y] U)).alloc (.cells #[.slice (some ⟨W.heap.size, 0, none⟩) 2 2, .bool false] T)).alloc (.cells #[.slice (some ⟨W.heap.size + 1, 0, none⟩) 2 2, .bool false] T)) := by
  refine ⟨PL.kept _ _ _, ?_, ?_, ?_, ?_, ?_, ?_⟩
  · have := (PX.new ((W.alloc (.cells #[.string aB, .string x] U)).alloc (.cells #[.string aB, .string y] U)) (.slice (some ⟨W.heap.size, 0, none⟩) 2 2) (.bool false) T)
    refine (PX.below ?_ (below_alloc _ _))
    simpa using this
  · have := PX.new (((W.alloc (.cells #[.string aB, .string x] U)).alloc (.cells #[.string aB, .string y] U)).alloc (.cells #[.slice (some ⟨W.heap.size, 0, none⟩) 2 2, .bool false] T)) (.slice (some ⟨W.heap.size + 1, 0, none⟩) 2 2) (.bool false) T
    simpa using this
  · exact (RT.two W aB x U).below (below_al (below_al (below_alloc _ _) _) _)
  · have := RT.two (W.alloc (.cells #[.string aB, .string x] U)) aB y U
    refine RT.below ?_ (below_al (below_alloc _ _) _)
    simpa using this
  · exact m.below (below_al (below_al (below_al (below_alloc _ _) _) _) _)
  · exact below_al (below_al (below_al (below_alloc _ _) _) _) _

theorem PL.x {W : World} {x y : ByteArray} {w : World} (h : At (PL W x y) w) : RT w (some ⟨W.heap.size, 0, none⟩) 2 [aB, x] := h.out.2.2.1
theorem PL.y {W : World} {x y : ByteArray} {w : World} (h : At (PL W x y) w) : RT w (some ⟨W.heap.size + 1, 0, none⟩) 2 [aB, y] := h.out.2.2.2.1
theorem PL.m {W : World} {x y : ByteArray} {w : World} (h : At (PL W x y) w) : ML w := h.out.2.2.2.2.1
theorem PL.b {W : World} {x y : ByteArray} {w : World} (h : At (PL W x y) w) : Below W.heap.size W w := h.out.2.2.2.2.2


set_option maxHeartbeats 4000000 in
theorem patternLaminar_any (x y : ByteArray) (W : World) (hx : x.size ≤ maxLen) (hy : y.size ≤ maxLen) (hsh : W.ShapedOpen Tryd.prog) :
    Calls Tryd.prog 16 #[.string x, .string y] W fun e w' => e = .returned (.bool true) ∧ Below W.heap.size W w' := by
  unfold maxLen at hx hy
  have HML := Lib.hid (ML.of hsh)
  clear hsh
  by_cases h1 : 60 < x.size
  · go_enter Tryd.func16, Tryd.ntmps16
    go_wp2_with (go_at_call 18; refine (pawake_any _ HML.out).mono ?_; rintro e w3 ⟨rfl, hb⟩)
    go_ret
    exact ⟨rfl, hb⟩
  by_cases h2 : 60 < y.size
  · go_enter Tryd.func16, Tryd.ntmps16
    go_wp2_with (go_at_call 18; refine (pawake_any _ HML.out).mono ?_; rintro e w3 ⟨rfl, hb⟩)
    go_ret
    exact ⟨rfl, hb⟩
  have hzx : ∀ z ∈ [aB, x], z.size ≤ 9223372036854775807 := fun z hz => by
    rcases List.mem_cons.1 hz with rfl | hz
    · decide
    · obtain rfl := List.mem_singleton.1 hz; omega
  have hzy : ∀ z ∈ [aB, y], z.size ≤ 9223372036854775807 := fun z hz => by
    rcases List.mem_cons.1 hz with rfl | hz
    · decide
    · obtain rfl := List.mem_singleton.1 hz; omega
  have HI := PL.enter x y HML.out 25 9
  have HCX : Hid (∀ w, RT w (some ⟨W.heap.size, 0, none⟩) 2 [aB, x] → Calls Tryd.prog 29 #[.agg #[.slice (some ⟨W.heap.size, 0, none⟩) 2 2, .bool false]] w fun e w' => e = .returned (.int .i64 (checkP [aB, x] false)) ∧ Below w.heap.size w w') := Lib.hid (fun w h => check_any _ 2 [aB, x] false w h hzx)
  have HCY : Hid (∀ w, RT w (some ⟨W.heap.size + 1, 0, none⟩) 2 [aB, y] → Calls Tryd.prog 29 #[.agg #[.slice (some ⟨W.heap.size + 1, 0, none⟩) 2 2, .bool false]] w fun e w' => e = .returned (.int .i64 (checkP [aB, y] false)) ∧ Below w.heap.size w w') := Lib.hid (fun w h => check_any _ 2 [aB, y] false w h hzy)
  have hcells : (aB = ⟨#[97]⟩) := rfl
  by_cases hn : checkP [aB, x] false = 0
  · by_cases hm : checkP [aB, y] false = 0
    · have HME : Hid (∀ w, RT w (some ⟨W.heap.size, 0, none⟩) 2 [aB, x] → RT w (some ⟨W.heap.size + 1, 0, none⟩) 2 [aB, y] → Calls Tryd.prog 41 #[.agg #[.slice (some ⟨W.heap.size, 0, none⟩) 2 2, .bool false], .agg #[.slice (some ⟨W.heap.size + 1, 0, none⟩) 2 2, .bool false]] w (RetMO w [aB, nrw x y] false (nrwOk x y))) := Lib.hid (fun w h k => by
        have := meet_any _ _ 2 2 [aB, x] [aB, y] false false w h k hzx hzy
        rw [lam_meet, lam_ok hn hm] at this
        exact this)
      have HW1 : Hid (∀ w, RT w (some ⟨W.heap.size, 0, none⟩) 2 [aB, x] → RT w (some ⟨W.heap.size + 1, 0, none⟩) 2 [aB, y] → Calls Tryd.prog 32 #[.agg #[.slice (some ⟨W.heap.size, 0, none⟩) 2 2, .bool false], .agg #[.slice (some ⟨W.heap.size + 1, 0, none⟩) 2 2, .bool false]] w fun e w' => e = .returned (.bool (insB x y)) ∧ Below w.heap.size w w') := Lib.hid (fun w h k => by
        have := within_any _ _ 2 2 [aB, x] [aB, y] false false w h k hzx hzy
        rw [lam_in hn hm] at this
        exact this)
      have HW2 : Hid (∀ w, RT w (some ⟨W.heap.size, 0, none⟩) 2 [aB, x] → RT w (some ⟨W.heap.size + 1, 0, none⟩) 2 [aB, y] → Calls Tryd.prog 32 #[.agg #[.slice (some ⟨W.heap.size + 1, 0, none⟩) 2 2, .bool false], .agg #[.slice (some ⟨W.heap.size, 0, none⟩) 2 2, .bool false]] w fun e w' => e = .returned (.bool (insB y x)) ∧ Below w.heap.size w w') := Lib.hid (fun w h k => by
        have := within_any _ _ 2 2 [aB, y] [aB, x] false false w k h hzy hzx
        rw [lam_in hm hn] at this
        exact this)
      have HEX : Hid (∀ C n w, RT w C n [aB, x] → RT w (some ⟨W.heap.size, 0, none⟩) 2 [aB, x] → Calls Tryd.prog 25 #[.slice C 2 n, .slice (some ⟨W.heap.size, 0, none⟩) 2 2] w fun e w' => e = .returned (.bool true) ∧ Below w.heap.size w w') := Lib.hid (fun C n w h k => by
        have := eq_any C _ n 2 [aB, x] [aB, x] w h k
        rw [show decide ([aB, x] = [aB, x]) = true from by simp] at this
        exact this)
      have HEY : Hid (∀ C n w, RT w C n [aB, y] → RT w (some ⟨W.heap.size + 1, 0, none⟩) 2 [aB, y] → Calls Tryd.prog 25 #[.slice C 2 n, .slice (some ⟨W.heap.size + 1, 0, none⟩) 2 2] w fun e w' => e = .returned (.bool true) ∧ Below w.heap.size w w') := Lib.hid (fun C n w h k => by
        have := eq_any C _ n 2 [aB, y] [aB, y] w h k
        rw [show decide ([aB, y] = [aB, y]) = true from by simp] at this
        exact this)
      rw [hn] at HCX
      rw [hm] at HCY
      clear hn hm hzx hzy hcells
      rcases nrw_cases x y with ⟨hi1, hn1, hk1⟩ | ⟨hi1, hi2, hn1, hk1⟩ | ⟨hi1, hi2, hk1⟩
      · rw [hn1, hk1] at HME
        rw [hi1] at HW1
        have HME := Lib.hid (fun w h k => (HME.out w h k).mono fun _ _ h => h.1 rfl)
        clear hi1 hn1 hk1 HEY
        obtain ⟨zz, hzz⟩ : ∃ zz, zz = [aB, x] := ⟨_, rfl⟩
        have HMZ : Hid (∀ w, RT w (some ⟨W.heap.size, 0, none⟩) 2 [aB, x] → RT w (some ⟨W.heap.size + 1, 0, none⟩) 2 [aB, y] → Calls Tryd.prog 41 #[.agg #[.slice (some ⟨W.heap.size, 0, none⟩) 2 2, .bool false], .agg #[.slice (some ⟨W.heap.size + 1, 0, none⟩) 2 2, .bool false]] w (RetM w zz false true)) := Lib.hid (fun w h k => by
          rw [hzz]
          exact HME.out w h k)
        clear HME
        have HME := HMZ
        clear HMZ
        have HZL : Hid (zz.length = 2) := Lib.hid (by rw [hzz]; rfl)
        have HEQ : Hid (∀ C n w, RT w C n zz → RT w (some ⟨W.heap.size, 0, none⟩) 2 [aB, x] → Calls Tryd.prog 25 #[.slice C zz.length n, .slice (some ⟨W.heap.size, 0, none⟩) 2 2] w fun e w' => e = .returned (.bool true) ∧ Below w.heap.size w w') := Lib.hid (fun C n w h k => by
          rw [HZL.out]
          subst hzz
          exact HEX.out C n w h k)
        clear HEX hzz
        go_enter Tryd.func16, Tryd.ntmps16
        go_wp2_with (first
          | (go_at_call 29; ((with_reducible refine (HCX.out _ (PL.x (HI.go (by repeat (first | exact Below.refl _ _ | apply Below.drew | apply below_drewN | apply below_al))))).mono ?_); rintro e w1 ⟨rfl, hb⟩); replace HI := HI.go2 (by repeat (first | exact Below.refl _ _ | apply Below.drew | apply below_drewN | apply below_al)) hb; clear hb; obtain ⟨⟨p1, p2, p3, p4, p5⟩, ⟨q1, q2, q3, q4, q5⟩, -⟩ := HI.out)
          | (go_at_call 29; ((with_reducible refine (HCY.out _ (PL.y (HI.go (by repeat (first | exact Below.refl _ _ | apply Below.drew | apply below_drewN | apply below_al))))).mono ?_); rintro e w1 ⟨rfl, hb⟩); replace HI := HI.go2 (by repeat (first | exact Below.refl _ _ | apply Below.drew | apply below_drewN | apply below_al)) hb; clear hb; obtain ⟨⟨p1, p2, p3, p4, p5⟩, ⟨q1, q2, q3, q4, q5⟩, -⟩ := HI.out)
          | (go_at_call 18; refine (pawake_any _ (PL.m (HI.go (by repeat (first | exact Below.refl _ _ | apply Below.drew | apply below_drewN | apply below_al))))).mono ?_; rintro e w3 ⟨rfl, hb⟩; replace HI := HI.go2 (by repeat (first | exact Below.refl _ _ | apply Below.drew | apply below_drewN | apply below_al)) hb; clear hb)
          | (go_at_call 41; refine (HME.out _ (PL.x (HI.go (by repeat (first | exact Below.refl _ _ | apply Below.drew | apply below_drewN | apply below_al)))) (PL.y (HI.go (by repeat (first | exact Below.refl _ _ | apply Below.drew | apply below_drewN | apply below_al))))).mono ?_; rintro e w6 ⟨C, n, rfl, hr, hb⟩; have HM : At (fun w => PX w w6.heap.size (.slice C zz.length n) (.bool false) ∧ RT w C n zz) (w6.alloc (.cells #[.slice C zz.length n, .bool false] 25)) := ⟨(kept_px _ _ _).both (kept_rt _ _ _), PX.new _ _ _ _, hr.below (below_alloc _ _)⟩; have hr1 := hr.1; have hr2 := hr.2.1; clear hr; replace HI := HI.go2 (by repeat (first | exact Below.refl _ _ | apply Below.drew | apply below_drewN | apply below_al)) hb; clear hb; obtain ⟨⟨p1, p2, p3, p4, p5⟩, ⟨q1, q2, q3, q4, q5⟩, -⟩ := HI.out)
          | (go_at_call 32; ((with_reducible refine (HW1.out _ (PL.x (HI.go (by repeat (first | exact Below.refl _ _ | apply Below.drew | apply below_drewN | apply below_al)))) (PL.y (HI.go (by repeat (first | exact Below.refl _ _ | apply Below.drew | apply below_drewN | apply below_al))))).mono ?_); rintro e w8 ⟨rfl, hb⟩); replace HM := HM.go2 (by repeat (first | exact Below.refl _ _ | apply Below.drew | apply below_drewN | apply below_al)) hb; replace HI := HI.go2 (by repeat (first | exact Below.refl _ _ | apply Below.drew | apply below_drewN | apply below_al)) hb; clear hb; obtain ⟨⟨p1, p2, p3, p4, p5⟩, ⟨q1, q2, q3, q4, q5⟩, -⟩ := HI.out; obtain ⟨⟨m1, m2, m3, m4, m5⟩, -⟩ := HM.out)
          | (go_at_call 32; ((with_reducible refine (HW2.out _ (PL.x (HI.go (by repeat (first | exact Below.refl _ _ | apply Below.drew | apply below_drewN | apply below_al)))) (PL.y (HI.go (by repeat (first | exact Below.refl _ _ | apply Below.drew | apply below_drewN | apply below_al))))).mono ?_); rintro e w9 ⟨rfl, hb⟩); replace HM := HM.go2 (by repeat (first | exact Below.refl _ _ | apply Below.drew | apply below_drewN | apply below_al)) hb; replace HI := HI.go2 (by repeat (first | exact Below.refl _ _ | apply Below.drew | apply below_drewN | apply below_al)) hb; clear hb; obtain ⟨⟨p1, p2, p3, p4, p5⟩, ⟨q1, q2, q3, q4, q5⟩, -⟩ := HI.out; obtain ⟨⟨m1, m2, m3, m4, m5⟩, -⟩ := HM.out)
          | (go_at_call 25; refine (HEQ.out _ _ _ (HM.go (by repeat (first | exact Below.refl _ _ | apply Below.drew | apply below_drewN | apply below_al))).out.2 (PL.x (HI.go (by repeat (first | exact Below.refl _ _ | apply Below.drew | apply below_drewN | apply below_al))))).mono ?_; rintro e w10 ⟨rfl, hb⟩; replace HI := HI.go2 (by repeat (first | exact Below.refl _ _ | apply Below.drew | apply below_drewN | apply below_al)) hb; clear hb))
        go_ret
        exact ⟨rfl, PL.b (HI.go (by repeat (first | exact Below.refl _ _ | apply Below.drew | apply below_drewN | apply below_al)))⟩
      · rw [hn1, hk1] at HME
        rw [hi1] at HW1
        rw [hi2] at HW2
        have HME := Lib.hid (fun w h k => (HME.out w h k).mono fun _ _ h => h.1 rfl)
        clear hi1 hi2 hn1 hk1 HEX
        obtain ⟨zz, hzz⟩ : ∃ zz, zz = [aB, y] := ⟨_, rfl⟩
        have HMZ : Hid (∀ w, RT w (some ⟨W.heap.size, 0, none⟩) 2 [aB, x] → RT w (some ⟨W.heap.size + 1, 0, none⟩) 2 [aB, y] → Calls Tryd.prog 41 #[.agg #[.slice (some ⟨W.heap.size, 0, none⟩) 2 2, .bool false], .agg #[.slice (some ⟨W.heap.size + 1, 0, none⟩) 2 2, .bool false]] w (RetM w zz false true)) := Lib.hid (fun w h k => by
          rw [hzz]
          exact HME.out w h k)
        clear HME
        have HME := HMZ
        clear HMZ
        have HZL : Hid (zz.length = 2) := Lib.hid (by rw [hzz]; rfl)
        have HEQ : Hid (∀ C n w, RT w C n zz → RT w (some ⟨W.heap.size + 1, 0, none⟩) 2 [aB, y] → Calls Tryd.prog 25 #[.slice C zz.length n, .slice (some ⟨W.heap.size + 1, 0, none⟩) 2 2] w fun e w' => e = .returned (.bool true) ∧ Below w.heap.size w w') := Lib.hid (fun C n w h k => by
          rw [HZL.out]
          subst hzz
          exact HEY.out C n w h k)
        clear HEY hzz
        go_enter Tryd.func16, Tryd.ntmps16
        go_wp2_with (first
          | (go_at_call 29; ((with_reducible refine (HCX.out _ (PL.x (HI.go (by repeat (first | exact Below.refl _ _ | apply Below.drew | apply below_drewN | apply below_al))))).mono ?_); rintro e w1 ⟨rfl, hb⟩); replace HI := HI.go2 (by repeat (first | exact Below.refl _ _ | apply Below.drew | apply below_drewN | apply below_al)) hb; clear hb; obtain ⟨⟨p1, p2, p3, p4, p5⟩, ⟨q1, q2, q3, q4, q5⟩, -⟩ := HI.out)
          | (go_at_call 29; ((with_reducible refine (HCY.out _ (PL.y (HI.go (by repeat (first | exact Below.refl _ _ | apply Below.drew | apply below_drewN | apply below_al))))).mono ?_); rintro e w1 ⟨rfl, hb⟩); replace HI := HI.go2 (by repeat (first | exact Below.refl _ _ | apply Below.drew | apply below_drewN | apply below_al)) hb; clear hb; obtain ⟨⟨p1, p2, p3, p4, p5⟩, ⟨q1, q2, q3, q4, q5⟩, -⟩ := HI.out)
          | (go_at_call 18; refine (pawake_any _ (PL.m (HI.go (by repeat (first | exact Below.refl _ _ | apply Below.drew | apply below_drewN | apply below_al))))).mono ?_; rintro e w3 ⟨rfl, hb⟩; replace HI := HI.go2 (by repeat (first | exact Below.refl _ _ | apply Below.drew | apply below_drewN | apply below_al)) hb; clear hb)
          | (go_at_call 41; refine (HME.out _ (PL.x (HI.go (by repeat (first | exact Below.refl _ _ | apply Below.drew | apply below_drewN | apply below_al)))) (PL.y (HI.go (by repeat (first | exact Below.refl _ _ | apply Below.drew | apply below_drewN | apply below_al))))).mono ?_; rintro e w6 ⟨C, n, rfl, hr, hb⟩; have HM : At (fun w => PX w w6.heap.size (.slice C zz.length n) (.bool false) ∧ RT w C n zz) (w6.alloc (.cells #[.slice C zz.length n, .bool false] 25)) := ⟨(kept_px _ _ _).both (kept_rt _ _ _), PX.new _ _ _ _, hr.below (below_alloc _ _)⟩; have hr1 := hr.1; have hr2 := hr.2.1; clear hr; replace HI := HI.go2 (by repeat (first | exact Below.refl _ _ | apply Below.drew | apply below_drewN | apply below_al)) hb; clear hb; obtain ⟨⟨p1, p2, p3, p4, p5⟩, ⟨q1, q2, q3, q4, q5⟩, -⟩ := HI.out)
          | (go_at_call 32; ((with_reducible refine (HW1.out _ (PL.x (HI.go (by repeat (first | exact Below.refl _ _ | apply Below.drew | apply below_drewN | apply below_al)))) (PL.y (HI.go (by repeat (first | exact Below.refl _ _ | apply Below.drew | apply below_drewN | apply below_al))))).mono ?_); rintro e w8 ⟨rfl, hb⟩); replace HM := HM.go2 (by repeat (first | exact Below.refl _ _ | apply Below.drew | apply below_drewN | apply below_al)) hb; replace HI := HI.go2 (by repeat (first | exact Below.refl _ _ | apply Below.drew | apply below_drewN | apply below_al)) hb; clear hb; obtain ⟨⟨p1, p2, p3, p4, p5⟩, ⟨q1, q2, q3, q4, q5⟩, -⟩ := HI.out; obtain ⟨⟨m1, m2, m3, m4, m5⟩, -⟩ := HM.out)
          | (go_at_call 32; ((with_reducible refine (HW2.out _ (PL.x (HI.go (by repeat (first | exact Below.refl _ _ | apply Below.drew | apply below_drewN | apply below_al)))) (PL.y (HI.go (by repeat (first | exact Below.refl _ _ | apply Below.drew | apply below_drewN | apply below_al))))).mono ?_); rintro e w9 ⟨rfl, hb⟩); replace HM := HM.go2 (by repeat (first | exact Below.refl _ _ | apply Below.drew | apply below_drewN | apply below_al)) hb; replace HI := HI.go2 (by repeat (first | exact Below.refl _ _ | apply Below.drew | apply below_drewN | apply below_al)) hb; clear hb; obtain ⟨⟨p1, p2, p3, p4, p5⟩, ⟨q1, q2, q3, q4, q5⟩, -⟩ := HI.out; obtain ⟨⟨m1, m2, m3, m4, m5⟩, -⟩ := HM.out)
          | (go_at_call 25; refine (HEQ.out _ _ _ (HM.go (by repeat (first | exact Below.refl _ _ | apply Below.drew | apply below_drewN | apply below_al))).out.2 (PL.y (HI.go (by repeat (first | exact Below.refl _ _ | apply Below.drew | apply below_drewN | apply below_al))))).mono ?_; rintro e w10 ⟨rfl, hb⟩; replace HI := HI.go2 (by repeat (first | exact Below.refl _ _ | apply Below.drew | apply below_drewN | apply below_al)) hb; clear hb))
        go_ret
        exact ⟨rfl, PL.b (HI.go (by repeat (first | exact Below.refl _ _ | apply Below.drew | apply below_drewN | apply below_al)))⟩
      · rw [hk1] at HME
        rw [hi1] at HW1
        rw [hi2] at HW2
        have HME := Lib.hid (fun w h k => (HME.out w h k).mono fun _ _ h => h.2 rfl)
        clear hi1 hi2 hk1 HEX HEY
        obtain ⟨zz, hzz⟩ : ∃ zz : List ByteArray, zz = [] := ⟨_, rfl⟩
        have HMZ : Hid (∀ w, RT w (some ⟨W.heap.size, 0, none⟩) 2 [aB, x] → RT w (some ⟨W.heap.size + 1, 0, none⟩) 2 [aB, y] → Calls Tryd.prog 41 #[.agg #[.slice (some ⟨W.heap.size, 0, none⟩) 2 2, .bool false], .agg #[.slice (some ⟨W.heap.size + 1, 0, none⟩) 2 2, .bool false]] w (RetM w zz false false)) := Lib.hid (fun w h k => by
          rw [hzz]
          exact HME.out w h k)
        clear HME
        have HME := HMZ
        clear HMZ
        clear hzz
        go_enter Tryd.func16, Tryd.ntmps16
        go_wp2_with (first
          | (go_at_call 29; ((with_reducible refine (HCX.out _ (PL.x (HI.go (by repeat (first | exact Below.refl _ _ | apply Below.drew | apply below_drewN | apply below_al))))).mono ?_); rintro e w1 ⟨rfl, hb⟩); replace HI := HI.go2 (by repeat (first | exact Below.refl _ _ | apply Below.drew | apply below_drewN | apply below_al)) hb; clear hb; obtain ⟨⟨p1, p2, p3, p4, p5⟩, ⟨q1, q2, q3, q4, q5⟩, -⟩ := HI.out)
          | (go_at_call 29; ((with_reducible refine (HCY.out _ (PL.y (HI.go (by repeat (first | exact Below.refl _ _ | apply Below.drew | apply below_drewN | apply below_al))))).mono ?_); rintro e w1 ⟨rfl, hb⟩); replace HI := HI.go2 (by repeat (first | exact Below.refl _ _ | apply Below.drew | apply below_drewN | apply below_al)) hb; clear hb; obtain ⟨⟨p1, p2, p3, p4, p5⟩, ⟨q1, q2, q3, q4, q5⟩, -⟩ := HI.out)
          | (go_at_call 18; refine (pawake_any _ (PL.m (HI.go (by repeat (first | exact Below.refl _ _ | apply Below.drew | apply below_drewN | apply below_al))))).mono ?_; rintro e w3 ⟨rfl, hb⟩; replace HI := HI.go2 (by repeat (first | exact Below.refl _ _ | apply Below.drew | apply below_drewN | apply below_al)) hb; clear hb)
          | (go_at_call 41; refine (HME.out _ (PL.x (HI.go (by repeat (first | exact Below.refl _ _ | apply Below.drew | apply below_drewN | apply below_al)))) (PL.y (HI.go (by repeat (first | exact Below.refl _ _ | apply Below.drew | apply below_drewN | apply below_al))))).mono ?_; rintro e w6 ⟨C, n, rfl, hr, hb⟩; have HM : At (fun w => PX w w6.heap.size (.slice C zz.length n) (.bool false) ∧ RT w C n zz) (w6.alloc (.cells #[.slice C zz.length n, .bool false] 25)) := ⟨(kept_px _ _ _).both (kept_rt _ _ _), PX.new _ _ _ _, hr.below (below_alloc _ _)⟩; have hr1 := hr.1; have hr2 := hr.2.1; clear hr; replace HI := HI.go2 (by repeat (first | exact Below.refl _ _ | apply Below.drew | apply below_drewN | apply below_al)) hb; clear hb; obtain ⟨⟨p1, p2, p3, p4, p5⟩, ⟨q1, q2, q3, q4, q5⟩, -⟩ := HI.out)
          | (go_at_call 32; ((with_reducible refine (HW1.out _ (PL.x (HI.go (by repeat (first | exact Below.refl _ _ | apply Below.drew | apply below_drewN | apply below_al)))) (PL.y (HI.go (by repeat (first | exact Below.refl _ _ | apply Below.drew | apply below_drewN | apply below_al))))).mono ?_); rintro e w8 ⟨rfl, hb⟩); replace HM := HM.go2 (by repeat (first | exact Below.refl _ _ | apply Below.drew | apply below_drewN | apply below_al)) hb; replace HI := HI.go2 (by repeat (first | exact Below.refl _ _ | apply Below.drew | apply below_drewN | apply below_al)) hb; clear hb; obtain ⟨⟨p1, p2, p3, p4, p5⟩, ⟨q1, q2, q3, q4, q5⟩, -⟩ := HI.out; obtain ⟨⟨m1, m2, m3, m4, m5⟩, -⟩ := HM.out)
          | (go_at_call 32; ((with_reducible refine (HW2.out _ (PL.x (HI.go (by repeat (first | exact Below.refl _ _ | apply Below.drew | apply below_drewN | apply below_al)))) (PL.y (HI.go (by repeat (first | exact Below.refl _ _ | apply Below.drew | apply below_drewN | apply below_al))))).mono ?_); rintro e w9 ⟨rfl, hb⟩); replace HM := HM.go2 (by repeat (first | exact Below.refl _ _ | apply Below.drew | apply below_drewN | apply below_al)) hb; replace HI := HI.go2 (by repeat (first | exact Below.refl _ _ | apply Below.drew | apply below_drewN | apply below_al)) hb; clear hb; obtain ⟨⟨p1, p2, p3, p4, p5⟩, ⟨q1, q2, q3, q4, q5⟩, -⟩ := HI.out; obtain ⟨⟨m1, m2, m3, m4, m5⟩, -⟩ := HM.out)
          )
        go_ret
        exact ⟨rfl, PL.b (HI.go (by repeat (first | exact Below.refl _ _ | apply Below.drew | apply below_drewN | apply below_al)))⟩
    · rw [hn] at HCX
      have hB : (checkP [aB, y] false != 0) = true := by rw [bne_iff_ne]; exact hm
      clear hn hm hzx hzy hcells
      generalize checkP [aB, y] false = m at *
      go_enter Tryd.func16, Tryd.ntmps16
      go_wp2_with (first
        | (go_at_call 29; ((with_reducible refine (HCX.out _ (PL.x (HI.go (by repeat (first | exact Below.refl _ _ | apply Below.drew | apply below_drewN | apply below_al))))).mono ?_); rintro e w1 ⟨rfl, hb⟩); replace HI := HI.go2 (by repeat (first | exact Below.refl _ _ | apply Below.drew | apply below_drewN | apply below_al)) hb; clear hb; obtain ⟨⟨p1, p2, p3, p4, p5⟩, ⟨q1, q2, q3, q4, q5⟩, -⟩ := HI.out)
        | (go_at_call 29; ((with_reducible refine (HCY.out _ (PL.y (HI.go (by repeat (first | exact Below.refl _ _ | apply Below.drew | apply below_drewN | apply below_al))))).mono ?_); rintro e w1 ⟨rfl, hb⟩); replace HI := HI.go2 (by repeat (first | exact Below.refl _ _ | apply Below.drew | apply below_drewN | apply below_al)) hb; clear hb; obtain ⟨⟨p1, p2, p3, p4, p5⟩, ⟨q1, q2, q3, q4, q5⟩, -⟩ := HI.out)
        | (go_at_call 18; refine (pawake_any _ (PL.m (HI.go (by repeat (first | exact Below.refl _ _ | apply Below.drew | apply below_drewN | apply below_al))))).mono ?_; rintro e w3 ⟨rfl, hb⟩; replace HI := HI.go2 (by repeat (first | exact Below.refl _ _ | apply Below.drew | apply below_drewN | apply below_al)) hb; clear hb)
        )
      go_ret
      exact ⟨rfl, PL.b (HI.go (by repeat (first | exact Below.refl _ _ | apply Below.drew | apply below_drewN | apply below_al)))⟩
  · have hB : (checkP [aB, x] false != 0) = true := by rw [bne_iff_ne]; exact hn
    clear hn hzx hzy hcells
    generalize checkP [aB, x] false = n at *
    go_enter Tryd.func16, Tryd.ntmps16
    go_wp2_with (first
      | (go_at_call 29; ((with_reducible refine (HCX.out _ (PL.x (HI.go (by repeat (first | exact Below.refl _ _ | apply Below.drew | apply below_drewN | apply below_al))))).mono ?_); rintro e w1 ⟨rfl, hb⟩); replace HI := HI.go2 (by repeat (first | exact Below.refl _ _ | apply Below.drew | apply below_drewN | apply below_al)) hb; clear hb; obtain ⟨⟨p1, p2, p3, p4, p5⟩, ⟨q1, q2, q3, q4, q5⟩, -⟩ := HI.out)
      | (go_at_call 29; ((with_reducible refine (HCY.out _ (PL.y (HI.go (by repeat (first | exact Below.refl _ _ | apply Below.drew | apply below_drewN | apply below_al))))).mono ?_); rintro e w1 ⟨rfl, hb⟩); replace HI := HI.go2 (by repeat (first | exact Below.refl _ _ | apply Below.drew | apply below_drewN | apply below_al)) hb; clear hb; obtain ⟨⟨p1, p2, p3, p4, p5⟩, ⟨q1, q2, q3, q4, q5⟩, -⟩ := HI.out)
      | (go_at_call 18; refine (pawake_any _ (PL.m (HI.go (by repeat (first | exact Below.refl _ _ | apply Below.drew | apply below_drewN | apply below_al))))).mono ?_; rintro e w3 ⟨rfl, hb⟩; replace HI := HI.go2 (by repeat (first | exact Below.refl _ _ | apply Below.drew | apply below_drewN | apply below_al)) hb; clear hb)
      )
    go_ret
    exact ⟨rfl, PL.b (HI.go (by repeat (first | exact Below.refl _ _ | apply Below.drew | apply below_drewN | apply below_al)))⟩
end Go.Proofs.YtofmngfmoagenaaDoor

