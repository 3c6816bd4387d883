/-
  PatternMeets returns true.
-/
import Derived.Test.YtofmngfmoagenaaDoorQ22
import Derived.Deep.RegionHeld3
import Derived.Deep.DeepCutAuto
namespace Go.Proofs.YtofmngfmoagenaaDoor
set_option linter.unusedSimpArgs false
set_option linter.unusedVariables false
open Go.RowKit
open Pm

theorem bcell' {W w1 : World} (hb : Below W.heap.size W w1) : (∀ b o, b < W.heap.size → w1.cell? ⟨b, o, none⟩ = W.cell? ⟨b, o, none⟩) ∧ (∀ b o, b < W.heap.size → w1.frozen? ⟨b, o, none⟩ = W.frozen? ⟨b, o, none⟩) :=
  ⟨fun b o h => hb.cell (p := ⟨b, o, none⟩) h, fun b o h => hb.frozen (p := ⟨b, o, none⟩) h⟩
theorem go3' {w v w' : World} (h1 : Below w.heap.size w v) (h2 : Below v.heap.size v w') : Below w.heap.size w w' := h1.trans (h2.mono h1.size)
theorem below_set' {w w' : World} (h : Below w.heap.size w w') (p : Addr) (hp : w.heap.size ≤ p.block) (u : Value) : Below w.heap.size w (w'.setCell p u) := h.setCell hp u
theorem RetMO.one {w w' : World} {zs : List ByteArray} {q ok : Bool} {e : Ending} (h : RetMO w zs q ok e w') : RetM w (if ok = true then zs else []) (if ok = true then q else false) ok e w' := by
  cases ok with
  | true => exact h.1 rfl
  | false => exact h.2 rfl
theorem PX.new' {w : World} {g : Nat} {u v : Value} {t : TypeId} (hg : g = w.heap.size) : PX (w.alloc (.cells #[u, v] t)) g u v := by
  subst hg
  exact PX.new w u v t
/-- all blocks from w on are boxes of the empty pattern -/
def QB (w w' : World) : Prop := ∀ g, w.heap.size ≤ g → g < w'.heap.size → PX w' g (.slice none 0 0) (.bool false)
theorem QB.refl (w : World) : QB w w := fun g h1 h2 => by omega
theorem QB.drew {w w' : World} (h : QB w w') : QB w w'.drew := fun g h1 h2 => (h g h1 h2).below (Below.refl _ _).drew
theorem QB.alloc {w w' : World} (h : QB w w') (t : TypeId) : QB w (w'.alloc (.cells #[.slice none 0 0, .bool false] t)) := fun g h1 h2 => by
  rcases Nat.lt_or_ge g w'.heap.size with h3 | h3
  · exact (h g h1 h3).below (below_alloc _ _)
  · have : g = w'.heap.size := by simp at h2; omega
    subst this
    exact PX.new _ _ _ _
theorem QB.carry {w V w' : World} (h : QB w V) (hb : Below V.heap.size V w') : ∀ g, w.heap.size ≤ g → g < V.heap.size → PX w' g (.slice none 0 0) (.bool false) := fun g h1 h2 => (h g h1 h2).below hb
theorem same_self (xs : List ByteArray) (r : Bool) : sameB xs xs r r = true := by unfold sameB; simp

set_option maxHeartbeats 4000000 in
set_option maxRecDepth 100000 in
theorem patternMeets_any (A : Option Addr) (c : Nat) (xs : List ByteArray) (r : Bool) (B : Option Addr) (d : Nat) (ys : List ByteArray) (t : Bool) (W : World) (h : RT W A c xs) (hz : ∀ x ∈ xs, x.size ≤ maxLen) (hg : ∀ x ∈ xs, x.size ≤ reachBytes) (k : RT W B d ys) (kz : ∀ x ∈ ys, x.size ≤ maxLen) (kg : ∀ x ∈ ys, x.size ≤ reachBytes) (hsh : W.ShapedOpen Tryd.prog) :
    Calls Tryd.prog 13 #[.agg #[.slice A xs.length c, .bool r], .agg #[.slice B ys.length d, .bool t]] W fun e w' => e = .returned (.bool true) ∧ Below W.heap.size W w' := by
  unfold maxLen at hz kz
  have HI := P2.enter h k (ML.of hsh) r t 25
  have HSX := Lib.hid (fun w (h : RT w A c xs) => small_any A c xs r w h hg)
  have HSY := Lib.hid (fun w (h : RT w B d ys) => small_any B d ys t w h kg)
  have HM1 := Lib.hid (fun w h k => (meet_any A B c d xs ys r t w h k hz kz).mono fun _ _ h => RetMO.one h)
  have HM2 := Lib.hid (fun w h k => (rmeet_any A B c d xs ys r t w h k hz kz).mono fun _ _ h => RetMO.one h)
  have HS : Hid (∀ (A B : Option Addr) (c d : Nat) (xs : List ByteArray) (r : Bool) (w : World), RT w A c xs → RT w B d xs →
    Calls Tryd.prog 21 #[.agg #[.slice A xs.length c, .bool r], .agg #[.slice B xs.length d, .bool r]] w fun e w' => e = .returned (.bool true) ∧ Below w.heap.size w w') := Lib.hid (fun A B c d xs r w h k => by
      have := psame_any A B c d xs xs r r w h k
      rw [same_self] at this
      exact this)
  generalize (if meetOk xs ys r t = true then meetL xs ys else []) = zz at *
  generalize (if meetOk xs ys r t = true then r && t else false) = qq at *
  generalize meetOk xs ys r t = mo at *
  have hx1 := h.1
  have hx2 := h.2.1
  have hy1 := k.1
  have hy2 := k.2.1
  clear hsh h hz hg k kz kg
  cases hsx : smallB xs with
  | false =>
    rw [hsx] at HSX
    go_enter Tryd.func13, Tryd.ntmps13
    go_wp2_with (first
      | (go_at_call_of 22 (Value.agg #[.slice A xs.length c, .bool r]); refine (HSX.out _ (P2.x (HI.go (by repeat (first | exact Below.refl _ _ | apply Below.drew | apply below_drewN | apply below_al))))).mono ?_; rintro e w1 ⟨rfl, hb⟩; replace HI := HI.go2 (by repeat (first | exact Below.refl _ _ | apply Below.drew | apply below_drewN | apply below_al)) hb; clear hb; obtain ⟨p1, p2, q1, q2⟩ := P2.cells HI)
      | (go_at_call 18; refine (pawake_any _ (P2.m (HI.go (by repeat (first | exact Below.refl _ _ | apply Below.drew | apply below_drewN | apply below_al))))).mono ?_; rintro e w3 ⟨rfl, hb⟩; replace HI := HI.go2 (by repeat (first | exact Below.refl _ _ | apply Below.drew | apply below_drewN | apply below_al)) hb; clear hb))
    go_ret
    exact ⟨rfl, P2.b (HI.go (by repeat (first | exact Below.refl _ _ | apply Below.drew | apply below_drewN | apply below_al)))⟩
  | true =>
    rw [hsx] at HSX
    have hxl := (small_yes hsx).1
    cases hsy : smallB ys with
    | false =>
      rw [hsy] at HSY
      go_enter Tryd.func13, Tryd.ntmps13
      go_wp2_with (first
        | (go_at_call_of 22 (Value.agg #[.slice A xs.length c, .bool r]); refine (HSX.out _ (P2.x (HI.go (by repeat (first | exact Below.refl _ _ | apply Below.drew | apply below_drewN | apply below_al))))).mono ?_; rintro e w1 ⟨rfl, hb⟩; replace HI := HI.go2 (by repeat (first | exact Below.refl _ _ | apply Below.drew | apply below_drewN | apply below_al)) hb; clear hb; obtain ⟨p1, p2, q1, q2⟩ := P2.cells HI)
        | (go_at_call_of 22 (Value.agg #[.slice B ys.length d, .bool t]); refine (HSY.out _ (P2.y (HI.go (by repeat (first | exact Below.refl _ _ | apply Below.drew | apply below_drewN | apply below_al))))).mono ?_; rintro e w2 ⟨rfl, hb⟩; replace HI := HI.go2 (by repeat (first | exact Below.refl _ _ | apply Below.drew | apply below_drewN | apply below_al)) hb; clear hb; obtain ⟨p1, p2, q1, q2⟩ := P2.cells HI)
        | (go_at_call 18; refine (pawake_any _ (P2.m (HI.go (by repeat (first | exact Below.refl _ _ | apply Below.drew | apply below_drewN | apply below_al))))).mono ?_; rintro e w3 ⟨rfl, hb⟩; replace HI := HI.go2 (by repeat (first | exact Below.refl _ _ | apply Below.drew | apply below_drewN | apply below_al)) hb; clear hb))
      go_ret
      exact ⟨rfl, P2.b (HI.go (by repeat (first | exact Below.refl _ _ | apply Below.drew | apply below_drewN | apply below_al)))⟩
    | true =>
      rw [hsy] at HSY
      have hyl := (small_yes hsy).1
      have HCX := Lib.hid (fun w h => copied_any A c xs r w h (by omega))
      have HCY := Lib.hid (fun w h => copied_any B d ys t w h (by omega))
      go_enter Tryd.func13, Tryd.ntmps13
      go_wp2_with (first
        | (go_at_call_of 22 (Value.agg #[.slice A xs.length c, .bool r]); refine (HSX.out _ (P2.x (HI.go (by repeat (first | exact Below.refl _ _ | apply Below.drew | apply below_drewN | apply below_al))))).mono ?_; rintro e w1 ⟨rfl, hb⟩; replace HI := HI.go2 (by repeat (first | exact Below.refl _ _ | apply Below.drew | apply below_drewN | apply below_al)) hb; clear hb; obtain ⟨p1, p2, q1, q2⟩ := P2.cells HI)
        | (go_at_call_of 22 (Value.agg #[.slice B ys.length d, .bool t]); refine (HSY.out _ (P2.y (HI.go (by repeat (first | exact Below.refl _ _ | apply Below.drew | apply below_drewN | apply below_al))))).mono ?_; rintro e w2 ⟨rfl, hb⟩; replace HI := HI.go2 (by repeat (first | exact Below.refl _ _ | apply Below.drew | apply below_drewN | apply below_al)) hb; clear hb; obtain ⟨p1, p2, q1, q2⟩ := P2.cells HI))
      have HB := Lib.hid (Below.refl w2.heap.size w2)
      have tok1 : True := trivial
      go_upto_region 3 with fail
      go_cut [5, 6] (fun s5 s6 wx => ∃ (g5 g6 : Nat) (D E : Option Addr) (f g : Nat), s5 = .pointer (some ⟨g5, 0, none⟩) ∧ s6 = .pointer (some ⟨g6, 0, none⟩) ∧ PX wx g5 (.slice D xs.length f) (.bool r) ∧ PX wx g6 (.slice E ys.length g) (.bool t) ∧ RT wx D f xs ∧ RT wx E g ys ∧ At (P2 W A c xs r B d ys t) wx)
      case first =>
        go_region_held3 (fun w' => (w'.cell? ⟨W.heap.size, 0, none⟩ = some (.slice A xs.length c) ∧ w'.cell? ⟨W.heap.size, 1, none⟩ = some (.bool r) ∧ w'.cell? ⟨W.heap.size + 1, 0, none⟩ = some (.slice B ys.length d) ∧ w'.cell? ⟨W.heap.size + 1, 1, none⟩ = some (.bool t)) ∧ Hid (Below w2.heap.size w2 w'))
          ((exact ⟨P2.cells (HI.go (by repeat (first | exact HB.out | apply Below.drew | apply below_drewN | apply below_al | (refine below_set' ?_ _ (by first | exact Nat.le_refl _ | (simp; omega) | (simp <;> omega) | omega) _)))), Lib.hid (by repeat (first | exact HB.out | apply Below.drew | apply below_drewN | apply below_al | (refine below_set' ?_ _ (by first | exact Nat.le_refl _ | (simp; omega) | (simp <;> omega) | omega) _)))⟩))
          (first
            | (go_at_call 27; have _t := tok1; refine (HCX.out _ (P2.x (HI.go (by repeat (first | exact HB.out | apply Below.drew | apply below_drewN | apply below_al | (refine below_set' ?_ _ (by first | exact Nat.le_refl _ | (simp; omega) | (simp <;> omega) | omega) _)))))).mono ?_; rintro e w3 ⟨D, f, rfl, hr, hb⟩; replace HB := Lib.hid (go3' (w := w2) (by repeat (first | exact HB.out | apply Below.drew | apply below_drewN | apply below_al | (refine below_set' ?_ _ (by first | exact Nat.le_refl _ | (simp; omega) | (simp <;> omega) | omega) _))) hb); have hz1 := hb.size; (try simp at hz1); (try (have l1 : w2.heap.size < w3.heap.size := by omega)); (try (have m1 : ¬ w2.heap.size = w3.heap.size := by omega)); (try (have k1 : ¬ w3.heap.size = w2.heap.size := by omega)); (try (have l2 : w2.heap.size + 1 < w3.heap.size := by omega)); (try (have m2 : ¬ w2.heap.size + 1 = w3.heap.size := by omega)); (try (have k2 : ¬ w3.heap.size = w2.heap.size + 1 := by omega)); obtain ⟨hc1, hf1⟩ := bcell' hb; have HQ1 := Lib.hid (QB.carry (w := w2) (by repeat (first | exact QB.refl _ | apply QB.drew | apply QB.alloc)) hb); have HR := Lib.hid hr; clear tok1 hb hr)
            | (go_at_call 27; refine (HCY.out _ (P2.y (HI.go (by repeat (first | exact HB.out | apply Below.drew | apply below_drewN | apply below_al | (refine below_set' ?_ _ (by first | exact Nat.le_refl _ | (simp; omega) | (simp <;> omega) | omega) _)))))).mono ?_; rintro e w4 ⟨E, g, rfl, hr2, hb2⟩; replace HB := Lib.hid (go3' (w := w2) (by repeat (first | exact HB.out | apply Below.drew | apply below_drewN | apply below_al | (refine below_set' ?_ _ (by first | exact Nat.le_refl _ | (simp; omega) | (simp <;> omega) | omega) _))) hb2); have hz2 := hb2.size; (try simp at hz2); (try (have l3 : w2.heap.size < w4.heap.size := by omega)); (try (have m3 : ¬ w2.heap.size = w4.heap.size := by omega)); (try (have k3 : ¬ w4.heap.size = w2.heap.size := by omega)); (try (have l4 : w2.heap.size + 1 < w4.heap.size := by omega)); (try (have m4 : ¬ w2.heap.size + 1 = w4.heap.size := by omega)); (try (have k4 : ¬ w4.heap.size = w2.heap.size + 1 := by omega)); (try (have l5 : w3.heap.size < w4.heap.size := by omega)); (try (have m5 : ¬ w3.heap.size = w4.heap.size := by omega)); (try (have k5 : ¬ w4.heap.size = w3.heap.size := by omega)); (try (have l6 : w3.heap.size + 1 < w4.heap.size := by omega)); (try (have m6 : ¬ w3.heap.size + 1 = w4.heap.size := by omega)); (try (have k6 : ¬ w4.heap.size = w3.heap.size + 1 := by omega)); obtain ⟨hc2, hf2⟩ := bcell' hb2; have HQ2 := Lib.hid (QB.carry (w := w3) (by repeat (first | exact QB.refl _ | apply QB.drew | apply QB.alloc)) hb2); have HQ3 := Lib.hid (fun g h1 h2 => (HQ1.out g h1 h2).below (go3' (w := w3) (by repeat (first | exact Below.refl _ _ | apply Below.drew | apply below_drewN | apply below_al)) hb2)); have HR2 := Lib.hid hr2; have HR4 := Lib.hid (HR.out.below (go3' (w := w3) (by repeat (first | exact Below.refl _ _ | apply Below.drew | apply below_drewN | apply below_al)) hb2)); clear hb2 hr2))
        all_goals
          go_wp2_with fail
          go_meet
          exact ⟨_, _, D, E, f, g, rfl, rfl, (by repeat (first | with_reducible exact PX.fst _ _ _ _ _ _ | with_reducible exact PX.snd _ _ _ _ _ _ | (with_reducible refine PX.new' ?_; solve | rfl | simp | omega) | with_reducible refine PX.set_same (u := .slice none 0 0) (v := .bool false) ?_ _ _ | with_reducible refine PX.set_cell ?_ _ (by first | (simp; done) | (simp; omega) | omega) _ | with_reducible refine PX.below ?_ (below_alloc _ _) | with_reducible refine HQ2.out _ (by first | (simp; done) | (simp; omega) | omega) (by first | (simp; done) | (simp; omega) | omega) | with_reducible refine HQ3.out _ (by first | (simp; done) | (simp; omega) | omega) (by first | (simp; done) | (simp; omega) | omega))), (by repeat (first | with_reducible exact PX.fst _ _ _ _ _ _ | with_reducible exact PX.snd _ _ _ _ _ _ | (with_reducible refine PX.new' ?_; solve | rfl | simp | omega) | with_reducible refine PX.set_same (u := .slice none 0 0) (v := .bool false) ?_ _ _ | with_reducible refine PX.set_cell ?_ _ (by first | (simp; done) | (simp; omega) | omega) _ | with_reducible refine PX.below ?_ (below_alloc _ _) | with_reducible refine HQ2.out _ (by first | (simp; done) | (simp; omega) | omega) (by first | (simp; done) | (simp; omega) | omega) | with_reducible refine HQ3.out _ (by first | (simp; done) | (simp; omega) | omega) (by first | (simp; done) | (simp; omega) | omega))), (by repeat (first | with_reducible exact HR4.out | with_reducible exact HR2.out | with_reducible refine RT.box (u := .slice none 0 0) (v := .bool false) ?_ ?_ (slice_ns _ _ _) (bool_ns _) _ _ | with_reducible refine RT.below ?_ (below_alloc _ _) | with_reducible exact PX.fst _ _ _ _ _ _ | with_reducible exact PX.snd _ _ _ _ _ _ | (with_reducible refine PX.new' ?_; solve | rfl | simp | omega) | with_reducible refine PX.set_same (u := .slice none 0 0) (v := .bool false) ?_ _ _ | with_reducible refine PX.set_cell ?_ _ (by first | (simp; done) | (simp; omega) | omega) _ | with_reducible refine PX.below ?_ (below_alloc _ _) | with_reducible refine HQ2.out _ (by first | (simp; done) | (simp; omega) | omega) (by first | (simp; done) | (simp; omega) | omega) | with_reducible refine HQ3.out _ (by first | (simp; done) | (simp; omega) | omega) (by first | (simp; done) | (simp; omega) | omega))), (by repeat (first | with_reducible exact HR4.out | with_reducible exact HR2.out | with_reducible refine RT.box (u := .slice none 0 0) (v := .bool false) ?_ ?_ (slice_ns _ _ _) (bool_ns _) _ _ | with_reducible refine RT.below ?_ (below_alloc _ _) | with_reducible exact PX.fst _ _ _ _ _ _ | with_reducible exact PX.snd _ _ _ _ _ _ | (with_reducible refine PX.new' ?_; solve | rfl | simp | omega) | with_reducible refine PX.set_same (u := .slice none 0 0) (v := .bool false) ?_ _ _ | with_reducible refine PX.set_cell ?_ _ (by first | (simp; done) | (simp; omega) | omega) _ | with_reducible refine PX.below ?_ (below_alloc _ _) | with_reducible refine HQ2.out _ (by first | (simp; done) | (simp; omega) | omega) (by first | (simp; done) | (simp; omega) | omega) | with_reducible refine HQ3.out _ (by first | (simp; done) | (simp; omega) | omega) (by first | (simp; done) | (simp; omega) | omega))), HI.go (by repeat (first | exact HB.out | apply Below.drew | apply below_drewN | apply below_al | (refine below_set' ?_ _ (by first | exact Nat.le_refl _ | (simp; omega) | (simp <;> omega) | omega) _)))⟩
      case rest =>
        obtain ⟨g5, g6, D, E, f, g, rfl, rfl, HPX, HPY, HRX, HRY, HJ⟩ := hcut
        have HA : At (fun w => PX w g5 (.slice D xs.length f) (.bool r) ∧ (PX w g6 (.slice E ys.length g) (.bool t) ∧ (RT w D f xs ∧ RT w E g ys))) wc := ⟨(kept_px _ _ _).both ((kept_px _ _ _).both ((kept_rt _ _ _).both (kept_rt _ _ _))), HPX, HPY, HRX, HRY⟩
        obtain ⟨p1, p2, q1, q2⟩ := P2.cells HJ
        clear HPX HPY HRX HRY
        go_wp2_with (first
          | (go_at_call 41; refine (HM1.out _ (P2.x (HJ.go (by repeat (first | exact Below.refl _ _ | apply Below.drew | apply below_drewN | apply below_al)))) (P2.y (HJ.go (by repeat (first | exact Below.refl _ _ | apply Below.drew | apply below_drewN | apply below_al))))).mono ?_; rintro e w5 ⟨M, n, rfl, hr, hb⟩; replace HJ := HJ.go2 (by repeat (first | exact Below.refl _ _ | apply Below.drew | apply below_drewN | apply below_al)) hb; replace HA := HA.go2 (by repeat (first | exact Below.refl _ _ | apply Below.drew | apply below_drewN | apply below_al)) hb; have HM : At (fun w => PX w w5.heap.size (.slice M zz.length n) (.bool qq) ∧ RT w M n zz) (w5.alloc (.cells #[.slice M zz.length n, .bool qq] 25)) := ⟨(kept_px _ _ _).both (kept_rt _ _ _), PX.new _ _ _ _, hr.below (below_alloc _ _)⟩; have hn1 := hr.1; have hn2 := hr.2.1; clear hr hb; obtain ⟨p1, p2, q1, q2⟩ := P2.cells HJ; have hz1 := HJ.out.1.2.2.2.2; have hz2 := HJ.out.2.1.2.2.2.2; obtain ⟨⟨a1, a2, a3, a4, a5⟩, ⟨b1, b2, b3, b4, b5⟩, -⟩ := HA.out)
          | (go_at_call 42; refine (HM2.out _ (P2.x (HJ.go (by repeat (first | exact Below.refl _ _ | apply Below.drew | apply below_drewN | apply below_al)))) (P2.y (HJ.go (by repeat (first | exact Below.refl _ _ | apply Below.drew | apply below_drewN | apply below_al))))).mono ?_; rintro e w6 ⟨N, n', rfl, hr, hb⟩; replace HJ := HJ.go2 (by repeat (first | exact Below.refl _ _ | apply Below.drew | apply below_drewN | apply below_al)) hb; replace HA := HA.go2 (by repeat (first | exact Below.refl _ _ | apply Below.drew | apply below_drewN | apply below_al)) hb; replace HM := HM.go2 (by repeat (first | exact Below.refl _ _ | apply Below.drew | apply below_drewN | apply below_al)) hb; have HN : At (fun w => RT w N n' zz) w6 := ⟨kept_rt _ _ _, hr⟩; have hn3 := hr.1; have hn4 := hr.2.1; clear hr hb; obtain ⟨p1, p2, q1, q2⟩ := P2.cells HJ; have hz1 := HJ.out.1.2.2.2.2; have hz2 := HJ.out.2.1.2.2.2.2; obtain ⟨⟨a1, a2, a3, a4, a5⟩, ⟨b1, b2, b3, b4, b5⟩, -⟩ := HA.out; obtain ⟨⟨m1, m2, m3, m4, m5⟩, -⟩ := HM.out)
          | (go_at_call_of 21 (Value.agg #[.slice M zz.length n, .bool qq]); ((with_reducible refine (HS.out _ _ _ _ _ _ _ (HM.go (by repeat (first | exact Below.refl _ _ | apply Below.drew | apply below_drewN | apply below_al))).out.2 (HN.go (by repeat (first | exact Below.refl _ _ | apply Below.drew | apply below_drewN | apply below_al))).out).mono ?_); rintro e w7 ⟨rfl, hb⟩); replace HJ := HJ.go2 (by repeat (first | exact Below.refl _ _ | apply Below.drew | apply below_drewN | apply below_al)) hb; replace HA := HA.go2 (by repeat (first | exact Below.refl _ _ | apply Below.drew | apply below_drewN | apply below_al)) hb; clear hb; obtain ⟨p1, p2, q1, q2⟩ := P2.cells HJ; have hz1 := HJ.out.1.2.2.2.2; have hz2 := HJ.out.2.1.2.2.2.2; obtain ⟨⟨a1, a2, a3, a4, a5⟩, ⟨b1, b2, b3, b4, b5⟩, -⟩ := HA.out)
          | (go_at_call_of 21 (Value.agg #[.slice A xs.length c, .bool r]); ((with_reducible refine (HS.out _ _ _ _ _ _ _ (P2.x (HJ.go (by repeat (first | exact Below.refl _ _ | apply Below.drew | apply below_drewN | apply below_al)))) (HA.go (by repeat (first | exact Below.refl _ _ | apply Below.drew | apply below_drewN | apply below_al))).out.2.2.1).mono ?_); rintro e w7 ⟨rfl, hb⟩); replace HJ := HJ.go2 (by repeat (first | exact Below.refl _ _ | apply Below.drew | apply below_drewN | apply below_al)) hb; replace HA := HA.go2 (by repeat (first | exact Below.refl _ _ | apply Below.drew | apply below_drewN | apply below_al)) hb; clear hb; obtain ⟨p1, p2, q1, q2⟩ := P2.cells HJ; have hz1 := HJ.out.1.2.2.2.2; have hz2 := HJ.out.2.1.2.2.2.2; obtain ⟨⟨a1, a2, a3, a4, a5⟩, ⟨b1, b2, b3, b4, b5⟩, -⟩ := HA.out)
          | (go_at_call_of 21 (Value.agg #[.slice B ys.length d, .bool t]); ((with_reducible refine (HS.out _ _ _ _ _ _ _ (P2.y (HJ.go (by repeat (first | exact Below.refl _ _ | apply Below.drew | apply below_drewN | apply below_al)))) (HA.go (by repeat (first | exact Below.refl _ _ | apply Below.drew | apply below_drewN | apply below_al))).out.2.2.2).mono ?_); rintro e w7 ⟨rfl, hb⟩); replace HJ := HJ.go2 (by repeat (first | exact Below.refl _ _ | apply Below.drew | apply below_drewN | apply below_al)) hb; replace HA := HA.go2 (by repeat (first | exact Below.refl _ _ | apply Below.drew | apply below_drewN | apply below_al)) hb; clear hb; obtain ⟨p1, p2, q1, q2⟩ := P2.cells HJ; have hz1 := HJ.out.1.2.2.2.2; have hz2 := HJ.out.2.1.2.2.2.2; obtain ⟨⟨a1, a2, a3, a4, a5⟩, ⟨b1, b2, b3, b4, b5⟩, -⟩ := HA.out)
          | (go_at_call 18; refine (pawake_any _ (P2.m (HJ.go (by repeat (first | exact Below.refl _ _ | apply Below.drew | apply below_drewN | apply below_al))))).mono ?_; rintro e w8 ⟨rfl, hb⟩; replace HJ := HJ.go2 (by repeat (first | exact Below.refl _ _ | apply Below.drew | apply below_drewN | apply below_al)) hb; replace HA := HA.go2 (by repeat (first | exact Below.refl _ _ | apply Below.drew | apply below_drewN | apply below_al)) hb; clear hb))
        go_ret
        exact ⟨rfl, P2.b (HJ.go (by repeat (first | exact Below.refl _ _ | apply Below.drew | apply below_drewN | apply below_al)))⟩
end Go.Proofs.YtofmngfmoagenaaDoor

