/-
  Rules: the walk of the reference's Agree.
-/
import Derived.Test.YtidjmbmnfnnleaaDoorA6a
import Derived.Test.YtidjmbmnfnnleaaDoorMT
namespace Go.Proofs.YtidjmbmnfnnleaaDoor
set_option linter.unusedSimpArgs false
set_option linter.unusedVariables false
open Go.RowKit
open Pm

theorem P5.set_cell {w : World} {g : Nat} {u0 u1 u2 u3 u4 : Value} (h : P5 w g u0 u1 u2 u3 u4) (p : Addr) (hp : p.block ≠ g) (a : Value) : P5 (w.setCell p a) g u0 u1 u2 u3 u4 := by
  have ne : ∀ (j : Nat), (w.setCell p a).cell? ⟨g, j, none⟩ = w.cell? ⟨g, j, none⟩ := fun j => World.cell?_setCell_other _ _ _ _ (fun e => hp (by rw [e]))
  exact ⟨(ne 0).trans h.1, (ne 1).trans h.2.1, (ne 2).trans h.2.2.1, (ne 3).trans h.2.2.2.1, (ne 4).trans h.2.2.2.2.1, by simpa [World.setCell] using h.2.2.2.2.2⟩
theorem ML.box {w : World} (h : ML w) {g : Nat} {u v : Value} (hp : PX w g u v) (h0 : ∀ k a, u ≠ .int k a) (h1 : ∀ k a, v ≠ .int k a) (a b : Value) : ML ((w.setCell ⟨g, 0, none⟩ a).setCell ⟨g, 1, none⟩ b) := by
  obtain ⟨m, hm⟩ := h
  refine ⟨m, ?_⟩
  have far : ∀ (W : World) (p : Addr) (v u : Value), W.cell? p = some v → (∀ k a, v ≠ .int k a) → W.cell? ⟨0, 0, none⟩ = some (.int .i64 m) → (W.setCell p u).cell? ⟨0, 0, none⟩ = some (.int .i64 m) := fun W p v u e hne hc => by
    rw [World.cell?_setCell_other]
    · exact hc
    · intro ee
      rw [← ee] at hc
      rw [e] at hc
      exact hne _ _ (Option.some.inj hc)
  exact far _ _ _ _ ((hp.set_fst a).2.1) h1 (far _ _ _ _ hp.1 h0 hm)
theorem PRA.far {W : World} {ex : Bool} {A : Option Addr} {c : Nat} {xs : List ByteArray} {r : Bool} {B : Option Addr} {d : Nat} {ys : List ByteArray} {t : Bool}
    {fx : Bool} {C : Option Addr} {e : Nat} {zs : List ByteArray} {u : Bool} {D : Option Addr} {f : Nat} {vs : List ByteArray} {v : Bool} {w : World} (h : At (PRA W ex A c xs r B d ys t fx C e zs u D f vs v) w)
    {g : Nat} {M : Option Addr} {n m : Nat} {q : Bool} (hp : PX w g (.slice M n m) (.bool q)) (hg : W.heap.size + 2 < g) (a b : Value) : At (PRA W ex A c xs r B d ys t fx C e zs u D f vs v) ((w.setCell ⟨g, 0, none⟩ a).setCell ⟨g, 1, none⟩ b) := by
  obtain ⟨hk, h1, ⟨h2, h3⟩, ⟨⟨h4, h5⟩, ⟨h6, h7⟩⟩, h8, h9⟩ := h
  refine ⟨hk, (h1.set_cell _ (by simp; omega) _).set_cell _ (by simp; omega) _, ⟨(h2.set_cell _ (by simp; omega) _).set_cell _ (by simp; omega) _, (h3.set_cell _ (by simp; omega) _).set_cell _ (by simp; omega) _⟩, ⟨⟨?_, ?_⟩, ⟨?_, ?_⟩⟩, ?_, below_box h9 (by omega) _ _⟩
  · exact h4.box hp (slice_ns _ _ _) (bool_ns _) _ _
  · exact h5.box hp (slice_ns _ _ _) (bool_ns _) _ _
  · exact h6.box hp (slice_ns _ _ _) (bool_ns _) _ _
  · exact h7.box hp (slice_ns _ _ _) (bool_ns _) _ _
  · exact h8.box hp (slice_ni _ _ _) (bool_ni _) _ _
/-- a pattern in a box of its own -/
def PBx (g : Nat) (M : Option Addr) (l : List ByteArray) (n : Nat) (q : Bool) (w : World) : Prop := PX w g (.slice M l.length n) (.bool q) ∧ RT w M n l
theorem PBx.set {g : Nat} {M : Option Addr} {l : List ByteArray} {n : Nat} {q : Bool} {w : World} (h : At (PBx g M l n q) w) {M' : Option Addr} {l' : List ByteArray} {n' : Nat} (hr : RT w M' n' l') :
    At (PBx g M' l' n' q) ((w.setCell ⟨g, 0, none⟩ (.slice M' l'.length n')).setCell ⟨g, 1, none⟩ (.bool q)) :=
  ⟨(kept_px _ _ _).both (kept_rt _ _ _), h.out.1.set_same _ _, hr.box h.out.1 (slice_ns _ _ _) (bool_ns _) _ _⟩
/-- narrowing to a state of Agree -/
theorem nar_state {xs ys l : List ByteArray} {r t q : Bool} (h0 : ruleE xs r ys t = 0) (hw : withinOk insB l xs q r = true) (hc : carE xs r l q ys t = 0) :
    narO xs r ys t l q = true ∧ narL xs r ys t l q = l ∧ narLr xs r ys t l q = q ∧ narR xs r ys t l q = carL xs r l q ys t ∧ narRr xs r ys t l q = carR xs r l q ys t := by
  obtain ⟨i1, i2⟩ := nar_idem h0 hw
  obtain ⟨j1, j2⟩ := i2 hc
  obtain ⟨k1, k2, k3⟩ := meet_idem hw
  have ho : narO xs r ys t l q = true := by rw [i1, hc]; rfl
  refine ⟨ho, ?_, ?_, j1, j2⟩
  · unfold narL
    rw [if_pos ho, k2]
  · unfold narLr
    rw [if_pos ho, k3]
theorem rnar_state (ex : Bool) (A : Option Addr) (c : Nat) (xs : List ByteArray) (r : Bool) (B : Option Addr) (d : Nat) (ys : List ByteArray) (t : Bool) (M : Option Addr) (n : Nat) (l f : List ByteArray) (q : Bool) (w : World) (h : RT w A c xs) (k : RT w B d ys) (m : RT w M n l) (hm : ML w)
    (hsx : ∀ x ∈ xs, x.size ≤ 5000) (hsy : ∀ x ∈ ys, x.size ≤ 5000) (hsl : ∀ x ∈ l, x.size ≤ 5000) (hlx : xs.length ≤ 5000) (hll : l.length ≤ 5000)
    (h0 : ruleE xs r ys t = 0) (hw : withinOk insB l xs q r = true) (hc : carE xs r l q ys t = 0) (hf : carL xs r l q ys t = f) (hq : carR xs r l q ys t = q) :
    Calls Tryd.prog 26 #[ruV ex A c xs r B d ys t, .agg #[.slice M l.length n, .bool q]] w (RetN w l q f q true 0) := by
  have hn := rnarrowL_any ex A c xs r B d ys t M n l q w h k m hm hsx hsy hsl hlx hll
  obtain ⟨e1, e2, e3, e4, e5⟩ := nar_state h0 hw hc
  unfold RetNar at hn
  rw [e1, e2, e3, e4, e5, hf, hq, nar_e0 e1] at hn
  exact hn
theorem starR_any {x : ByteArray} (hp : partB x = true) (w : World) (hz : x.size ≤ 9223372036854775807) :
    Calls Tryd.prog 51 #[.string x] w fun e w' => ∃ y : ByteArray, e = .returned (.tuple #[.string y, .bool (stB x)]) ∧ w = w' := by
  have := rstar_any x w hz
  rw [star_agree hp] at this
  exact this.mono fun e w' ⟨h1, h2⟩ => ⟨_, h1, h2⟩
theorem cap_state {p x : ByteArray} (hp : partB p = true) (hs : stB p = true) (hx : partB x = true) (hn : stB x = false) (w : World) (h1 : p.size ≤ 9223372036854775807) (h2 : x.size ≤ 9223372036854775807) :
    (mpOk p x = true → Calls Tryd.prog 52 #[.string p, .string x] w fun e w' => e = .returned (.tuple #[.string (mpCap p x), .bool true]) ∧ w = w') ∧
    (mpOk p x = false → Calls Tryd.prog 52 #[.string p, .string x] w fun e w' => ∃ y : ByteArray, e = .returned (.tuple #[.string y, .bool false]) ∧ w = w') := by
  obtain ⟨g1, g2⟩ := part_agree hp (part_name hx hn)
  have := rcapture_any p x w h1 h2
  constructor
  · intro ho
    rw [← g1, ho, ← g2 hs ho] at this
    exact this
  · intro ho
    rw [← g1, ho] at this
    exact this.mono fun e w' ⟨h1, h2⟩ => ⟨_, h1, h2⟩

set_option maxHeartbeats 16000000 in
set_option maxRecDepth 100000 in
theorem ragree_bad (ex : Bool) (A : Option Addr) (c : Nat) (xs : List ByteArray) (r : Bool) (B : Option Addr) (d : Nat) (ys : List ByteArray) (t : Bool) (fx : Bool) (C : Option Addr) (e : Nat) (zs : List ByteArray) (u : Bool) (D : Option Addr) (f : Nat) (vs : List ByteArray) (v : Bool) (w : World) (h : RT w A c xs) (k : RT w B d ys) (h' : RT w C e zs) (k' : RT w D f vs) (hm : ML w)
    (hsx : ∀ x ∈ xs, x.size ≤ 5000) (hsy : ∀ x ∈ ys, x.size ≤ 5000) (hsz : ∀ x ∈ zs, x.size ≤ 5000) (hsv : ∀ x ∈ vs, x.size ≤ 5000) (hlx : xs.length ≤ 5000) (hlz : zs.length ≤ 5000) (hno : agG xs r ys t zs u vs v = false) :
    Calls Tryd.prog 33 #[ruV ex A c xs r B d ys t, ruV fx C e zs u D f vs v] w (RetAg w xs r ys t zs u vs v) := by
  have HI := PRA.enter h k h' k' hm ex r t fx u v 26 24
  have HK1 := Lib.hid (fun w h k m => rruleCheck_any ex A B c d xs ys r t w h k m hsx hsy)
  have HK2 := Lib.hid (fun w h k m => rruleCheck_any fx C D e f zs vs u v w h k m hsz hsv)
  have HME := Lib.hid (fun w h l => (rmeet_any A C c e xs zs r u w h l (five9 hsx) (five9 hsz)).mono fun _ _ h => RetM.two h)
  have hx1 := h.1
  have hx2 := h.2.1
  have hy1 := k.1
  have hy2 := k.2.1
  have hz1 := h'.1
  have hz2 := h'.2.1
  have hv1 := k'.1
  have hv2 := k'.2.1
  clear h k h' k' hm
  by_cases h1 : ruleE xs r ys t = 0
  · by_cases h2 : ruleE zs u vs v = 0
    · have h12 : chkE xs r ys t zs u vs v = 0 := chk_zero.2 ⟨h1, h2⟩
      rw [h1] at HK1
      rw [h2] at HK2
      cases h3 : meetOk xs zs r u with
      | false =>
        have HBAD := Lib.hid (fun e' w' h => ag_bad (w := w) (e := e') (w' := w') (n := 0) hno (by unfold agE; rw [if_neg (by simp [h12]), if_pos h3]) h)
        rw [h3] at HME
        simp only [Bool.false_eq_true, if_false] at HME
        obtain ⟨mr, hmr⟩ : ∃ mr, mr = false := ⟨_, rfl⟩
        unfold ruV at *
        clear hsx hsy hsz hsv hlx hlz h1 h2 h12 h3 hmr hno
        go_enter Tryd.func33, Tryd.ntmps33
        go_wp2_with (first
          | (go_at_call_of 22 (Value.agg #[.bool ex, .slice A xs.length c, .bool r, .slice B ys.length d, .bool t]); refine (HK1.out _ (HI.go (by repeat (first | exact Below.refl _ _ | apply Below.drew | apply below_drewN | apply below_al))).out.2.2.1.1.1 (HI.go (by repeat (first | exact Below.refl _ _ | apply Below.drew | apply below_drewN | apply below_al))).out.2.2.1.1.2 (HI.go (by repeat (first | exact Below.refl _ _ | apply Below.drew | apply below_drewN | apply below_al))).out.2.2.2.1).mono ?_; rintro e w1 ⟨rfl, hb⟩; replace HI := HI.go2 (by repeat (first | exact Below.refl _ _ | apply Below.drew | apply below_drewN | apply below_al)) hb; clear hb; obtain ⟨⟨s0, s1, s2, s3, s4⟩, ⟨⟨p1, p2, p3, p4, p5, p6⟩, ⟨q1, q2, q3, q4, q5, q6⟩⟩, -⟩ := HI.out)
          | (go_at_call_of 22 (Value.agg #[.bool fx, .slice C zs.length e, .bool u, .slice D vs.length f, .bool v]); refine (HK2.out _ (HI.go (by repeat (first | exact Below.refl _ _ | apply Below.drew | apply below_drewN | apply below_al))).out.2.2.1.2.1 (HI.go (by repeat (first | exact Below.refl _ _ | apply Below.drew | apply below_drewN | apply below_al))).out.2.2.1.2.2 (HI.go (by repeat (first | exact Below.refl _ _ | apply Below.drew | apply below_drewN | apply below_al))).out.2.2.2.1).mono ?_; rintro e w2 ⟨rfl, hb⟩; replace HI := HI.go2 (by repeat (first | exact Below.refl _ _ | apply Below.drew | apply below_drewN | apply below_al)) hb; clear hb; obtain ⟨⟨s0, s1, s2, s3, s4⟩, ⟨⟨p1, p2, p3, p4, p5, p6⟩, ⟨q1, q2, q3, q4, q5, q6⟩⟩, -⟩ := HI.out)
          | (go_at_call 46; refine (HME.out _ (HI.go (by repeat (first | exact Below.refl _ _ | apply Below.drew | apply below_drewN | apply below_al))).out.2.2.1.1.1 (HI.go (by repeat (first | exact Below.refl _ _ | apply Below.drew | apply below_drewN | apply below_al))).out.2.2.1.2.1).mono ?_; rintro e w3 ⟨M, n, rfl, hr, hb⟩; replace HI := HI.go2 (by repeat (first | exact Below.refl _ _ | apply Below.drew | apply below_drewN | apply below_al)) hb; clear hb; have hgm := HI.out.1.2.2.2.2; have HM : At (PBx w3.heap.size M [] n mr) _ := At.rb2 (q := mr) hr; have m1 := hr.1; have m2 := hr.2.1; clear hr; obtain ⟨⟨s0, s1, s2, s3, s4⟩, ⟨⟨p1, p2, p3, p4, p5, p6⟩, ⟨q1, q2, q3, q4, q5, q6⟩⟩, -⟩ := HI.out))
        refine bodyPost_ret (v := .tuple #[.agg #[.slice none 0 0, .bool false], .bool false, .int .i64 0]) (by simp [results, Tryd.results33, go_sem, s0, s1, s2, s3, s4]) rfl (HBAD.out _ _ ⟨none, 0, rfl, RT.nil _ _ _ (by omega), ?_⟩)
        exact below_al (below_box HI.out.2.2.2.2 (by omega) _ _) _
      | true =>
        rw [h3] at HME
        simp only [if_true] at HME
        have hms : ∀ z ∈ meetL xs zs, z.size ≤ 5000 := fun z hz => (meetL_mem h3 hz).elim (hsx z) (hsz z)
        have hml : (meetL xs zs).length ≤ 5000 := by
          unfold meetL
          split
          · rw [mzAll_len (by omega)]; exact hlz
          · rw [mzAll_len (by omega)]; exact hlx
        have hE : agE xs r ys t zs u vs v = 43 ∧ (carE xs r (meetL xs zs) (r && u) ys t ≠ 0 ∨ carE zs u (meetL xs zs) (r && u) vs v ≠ 0) := by
          unfold agE
          rw [if_neg (by simp [h12]), if_neg (by simp [h3])]
          by_cases c1 : carE xs r (meetL xs zs) (r && u) ys t = 0
          · rw [if_neg (by simp [c1])]
            by_cases c2 : carE zs u (meetL xs zs) (r && u) vs v = 0
            · rw [ag_parts.2 ⟨h12, h3, c1, c2⟩] at hno; cases hno
            · refine ⟨?_, .inr c2⟩
              unfold carE at c2 ⊢
              split at c2
              · exact absurd rfl c2
              · rename_i hh; rw [if_neg hh]
          · rw [if_pos (by simpa using c1)]
            exact ⟨rfl, .inl c1⟩
        have HBAD := Lib.hid (fun e' w' h => ag_bad (w := w) (e := e') (w' := w') (n := 43) hno hE.1 h)
        have hw := meet_within h3
        have i1 := nar_idem h1 hw.1
        have i2 := nar_idem h2 hw.2
        have HN1 : Hid (∀ M n w, RT w A c xs → RT w B d ys → RT w M n (meetL xs zs) → ML w → Calls Tryd.prog 26 #[ruV ex A c xs r B d ys t, .agg #[.slice M (meetL xs zs).length n, .bool (r && u)]] w
            (RetN2 w (narL xs r ys t (meetL xs zs) (r && u)) (narLr xs r ys t (meetL xs zs) (r && u)) (narR xs r ys t (meetL xs zs) (r && u)) (narRr xs r ys t (meetL xs zs) (r && u)) (narO xs r ys t (meetL xs zs) (r && u)))) := Lib.hid (fun M n w h k m hm =>
          (rnarrowL_any ex A c xs r B d ys t M n (meetL xs zs) (r && u) w h k m hm hsx hsy hms hlx hml).mono fun e w' ⟨a1, a2, a3, a4, a5, a6⟩ => ⟨_, a1, a2, a3, a4, a5, a6⟩)
        have HN2 : Hid (∀ M n w, RT w C e zs → RT w D f vs → RT w M n (meetL xs zs) → ML w → Calls Tryd.prog 26 #[ruV fx C e zs u D f vs v, .agg #[.slice M (meetL xs zs).length n, .bool (r && u)]] w
            (RetN2 w (narL zs u vs v (meetL xs zs) (r && u)) (narLr zs u vs v (meetL xs zs) (r && u)) (narR zs u vs v (meetL xs zs) (r && u)) (narRr zs u vs v (meetL xs zs) (r && u)) (narO zs u vs v (meetL xs zs) (r && u)))) := Lib.hid (fun M n w h k m hm =>
          (rnarrowL_any fx C e zs u D f vs v M n (meetL xs zs) (r && u) w h k m hm hsz hsv hms hlz hml).mono fun e w' ⟨a1, a2, a3, a4, a5, a6⟩ => ⟨_, a1, a2, a3, a4, a5, a6⟩)
        rw [i1.1] at HN1
        rw [i2.1] at HN2
        unfold RetN2 at HN1 HN2
        unfold ruV at *
        generalize narRr xs r ys t (meetL xs zs) (r && u) = lr at *
        generalize narR xs r ys t (meetL xs zs) (r && u) = ll at *
        generalize narRr zs u vs v (meetL xs zs) (r && u) = rr at *
        generalize narR zs u vs v (meetL xs zs) (r && u) = rl at *
        generalize narLr xs r ys t (meetL xs zs) (r && u) = xr at *
        generalize narL xs r ys t (meetL xs zs) (r && u) = xl at *
        generalize narLr zs u vs v (meetL xs zs) (r && u) = yr at *
        generalize narL zs u vs v (meetL xs zs) (r && u) = yl at *
        have HEE := Lib.hid hE.2
        clear hE
        generalize carE xs r (meetL xs zs) (r && u) ys t = x0 at *
        generalize carE zs u (meetL xs zs) (r && u) vs v = y0 at *
        generalize meetL xs zs = mm at *
        generalize hmr : (r && u) = mr at *
        clear hsx hsy hsz hsv hlx hlz h1 h2 h12 h3 hms hml hw i1 i2 hmr hno
        by_cases hx0 : x0 = 0
        · subst hx0
          have hy0 : (y0 == 0) = false := by
            rw [beq_eq_false_iff_ne]
            rcases HEE.out with h | h
            · exact absurd rfl h
            · exact h
          rw [hy0] at HN2
          simp only [BEq.rfl] at HN1
          clear hy0 HEE
          go_enter Tryd.func33, Tryd.ntmps33
          go_wp2_with (first
            | (go_at_call_of 22 (Value.agg #[.bool ex, .slice A xs.length c, .bool r, .slice B ys.length d, .bool t]); refine (HK1.out _ (HI.go (by repeat (first | exact Below.refl _ _ | apply Below.drew | apply below_drewN | apply below_al))).out.2.2.1.1.1 (HI.go (by repeat (first | exact Below.refl _ _ | apply Below.drew | apply below_drewN | apply below_al))).out.2.2.1.1.2 (HI.go (by repeat (first | exact Below.refl _ _ | apply Below.drew | apply below_drewN | apply below_al))).out.2.2.2.1).mono ?_; rintro e w1 ⟨rfl, hb⟩; replace HI := HI.go2 (by repeat (first | exact Below.refl _ _ | apply Below.drew | apply below_drewN | apply below_al)) hb; clear hb; obtain ⟨⟨s0, s1, s2, s3, s4⟩, ⟨⟨p1, p2, p3, p4, p5, p6⟩, ⟨q1, q2, q3, q4, q5, q6⟩⟩, -⟩ := HI.out)
            | (go_at_call_of 22 (Value.agg #[.bool fx, .slice C zs.length e, .bool u, .slice D vs.length f, .bool v]); refine (HK2.out _ (HI.go (by repeat (first | exact Below.refl _ _ | apply Below.drew | apply below_drewN | apply below_al))).out.2.2.1.2.1 (HI.go (by repeat (first | exact Below.refl _ _ | apply Below.drew | apply below_drewN | apply below_al))).out.2.2.1.2.2 (HI.go (by repeat (first | exact Below.refl _ _ | apply Below.drew | apply below_drewN | apply below_al))).out.2.2.2.1).mono ?_; rintro e w2 ⟨rfl, hb⟩; replace HI := HI.go2 (by repeat (first | exact Below.refl _ _ | apply Below.drew | apply below_drewN | apply below_al)) hb; clear hb; obtain ⟨⟨s0, s1, s2, s3, s4⟩, ⟨⟨p1, p2, p3, p4, p5, p6⟩, ⟨q1, q2, q3, q4, q5, q6⟩⟩, -⟩ := HI.out)
            | (go_at_call 46; refine (HME.out _ (HI.go (by repeat (first | exact Below.refl _ _ | apply Below.drew | apply below_drewN | apply below_al))).out.2.2.1.1.1 (HI.go (by repeat (first | exact Below.refl _ _ | apply Below.drew | apply below_drewN | apply below_al))).out.2.2.1.2.1).mono ?_; rintro e w3 ⟨M, n, rfl, hr, hb⟩; replace HI := HI.go2 (by repeat (first | exact Below.refl _ _ | apply Below.drew | apply below_drewN | apply below_al)) hb; clear hb; have hgm := HI.out.1.2.2.2.2; have HM : At (PBx w3.heap.size M mm n mr) _ := At.rb2 (q := mr) hr; have m1 := hr.1; have m2 := hr.2.1; clear hr; obtain ⟨⟨s0, s1, s2, s3, s4⟩, ⟨⟨p1, p2, p3, p4, p5, p6⟩, ⟨q1, q2, q3, q4, q5, q6⟩⟩, -⟩ := HI.out))
          go_loopg [17] 1 (fun g s17 wx => At (PRA w ex A c xs r B d ys t fx C e zs u D f vs v) wx ∧ At (PBx w3.heap.size M mm n mr) wx)
          case atStart => exact ⟨HI.go (by repeat (first | exact Below.refl _ _ | apply Below.drew | apply below_drewN | apply below_al)), HM⟩
          case round =>
            obtain ⟨HJ, HL⟩ := hrel
            clear HI HM
            obtain ⟨⟨s0, s1, s2, s3, s4⟩, ⟨⟨p1, p2, p3, p4, p5, p6⟩, ⟨q1, q2, q3, q4, q5, q6⟩⟩, -⟩ := HJ.out
            obtain ⟨⟨m3, m4, m5, m6, m7⟩, -⟩ := HL.out
            go_wp2_with (first
              | (go_at_call_of 26 (Value.agg #[.bool ex, .slice A xs.length c, .bool r, .slice B ys.length d, .bool t]); refine (HN1.out _ _ _ (HJ.go (by repeat (first | exact Below.refl _ _ | apply Below.drew | apply below_drewN | apply below_al))).out.2.2.1.1.1 (HJ.go (by repeat (first | exact Below.refl _ _ | apply Below.drew | apply below_drewN | apply below_al))).out.2.2.1.1.2 (HL.go (by repeat (first | exact Below.refl _ _ | apply Below.drew | apply below_drewN | apply below_al))).out.2 (HJ.go (by repeat (first | exact Below.refl _ _ | apply Below.drew | apply below_drewN | apply below_al))).out.2.2.2.1).mono ?_; rintro e w4 ⟨n1, E, k1, F, k2, rfl, hr, hr2, hb⟩; replace HL := HL.go2 (by repeat (first | exact Below.refl _ _ | apply Below.drew | apply below_drewN | apply below_al)) hb; replace HJ := HJ.go2 (by repeat (first | exact Below.refl _ _ | apply Below.drew | apply below_drewN | apply below_al)) hb; have HX := At.prb (ex := false) (l := xr) (q := lr) hr hr2; have d1 := hr.1; have d2 := hr.2.1; have d3 := hr2.1; have d4 := hr2.2.1; clear hr hr2; obtain ⟨⟨s0, s1, s2, s3, s4⟩, ⟨⟨p1, p2, p3, p4, p5, p6⟩, ⟨q1, q2, q3, q4, q5, q6⟩⟩, -⟩ := HJ.out; obtain ⟨⟨m3, m4, m5, m6, m7⟩, -⟩ := HL.out)
              | (go_at_call_of 26 (Value.agg #[.bool fx, .slice C zs.length e, .bool u, .slice D vs.length f, .bool v]); refine (HN2.out _ _ _ (HJ.go (by repeat (first | exact Below.refl _ _ | apply Below.drew | apply below_drewN | apply below_al))).out.2.2.1.2.1 (HJ.go (by repeat (first | exact Below.refl _ _ | apply Below.drew | apply below_drewN | apply below_al))).out.2.2.1.2.2 (HL.go (by repeat (first | exact Below.refl _ _ | apply Below.drew | apply below_drewN | apply below_al))).out.2 (HJ.go (by repeat (first | exact Below.refl _ _ | apply Below.drew | apply below_drewN | apply below_al))).out.2.2.2.1).mono ?_; rintro e w5 ⟨n2, G, k3, H, k4, rfl, hr, hr2, hb⟩; replace HL := HL.go2 (by repeat (first | exact Below.refl _ _ | apply Below.drew | apply below_drewN | apply below_al)) hb; replace HJ := HJ.go2 (by repeat (first | exact Below.refl _ _ | apply Below.drew | apply below_drewN | apply below_al)) hb; replace HX := HX.go2 (by repeat (first | exact Below.refl _ _ | apply Below.drew | apply below_drewN | apply below_al)) hb; have HY := At.prb (ex := false) (l := yr) (q := rr) hr hr2; have g1 := hr.1; have g2 := hr.2.1; have g3 := hr2.1; have g4 := hr2.2.1; clear hr hr2; obtain ⟨⟨s0, s1, s2, s3, s4⟩, ⟨⟨p1, p2, p3, p4, p5, p6⟩, ⟨q1, q2, q3, q4, q5, q6⟩⟩, -⟩ := HJ.out; obtain ⟨⟨m3, m4, m5, m6, m7⟩, -⟩ := HL.out; obtain ⟨⟨d5, d6, d7, d8, d9, d10⟩, -⟩ := HX.out)
              | fail)
            try rw [Exit.noGoto_ret]
            refine bodyPost_ret (v := .tuple #[.agg #[.slice none 0 0, .bool false], .bool false, .int .i64 43]) (by simp [results, Tryd.results33, go_sem, s0, s1, s2, s3, s4]) rfl (HBAD.out _ _ ⟨none, 0, rfl, RT.nil _ _ _ (by omega), ?_⟩)
            exact below_al (below_box HJ.out.2.2.2.2 (by omega) _ _) _
        · have hx0' : (x0 == 0) = false := by rw [beq_eq_false_iff_ne]; exact hx0
          rw [hx0'] at HN1
          clear hx0 hx0' HEE
          generalize (y0 == 0) = yb at *
          go_enter Tryd.func33, Tryd.ntmps33
          go_wp2_with (first
            | (go_at_call_of 22 (Value.agg #[.bool ex, .slice A xs.length c, .bool r, .slice B ys.length d, .bool t]); refine (HK1.out _ (HI.go (by repeat (first | exact Below.refl _ _ | apply Below.drew | apply below_drewN | apply below_al))).out.2.2.1.1.1 (HI.go (by repeat (first | exact Below.refl _ _ | apply Below.drew | apply below_drewN | apply below_al))).out.2.2.1.1.2 (HI.go (by repeat (first | exact Below.refl _ _ | apply Below.drew | apply below_drewN | apply below_al))).out.2.2.2.1).mono ?_; rintro e w1 ⟨rfl, hb⟩; replace HI := HI.go2 (by repeat (first | exact Below.refl _ _ | apply Below.drew | apply below_drewN | apply below_al)) hb; clear hb; obtain ⟨⟨s0, s1, s2, s3, s4⟩, ⟨⟨p1, p2, p3, p4, p5, p6⟩, ⟨q1, q2, q3, q4, q5, q6⟩⟩, -⟩ := HI.out)
            | (go_at_call_of 22 (Value.agg #[.bool fx, .slice C zs.length e, .bool u, .slice D vs.length f, .bool v]); refine (HK2.out _ (HI.go (by repeat (first | exact Below.refl _ _ | apply Below.drew | apply below_drewN | apply below_al))).out.2.2.1.2.1 (HI.go (by repeat (first | exact Below.refl _ _ | apply Below.drew | apply below_drewN | apply below_al))).out.2.2.1.2.2 (HI.go (by repeat (first | exact Below.refl _ _ | apply Below.drew | apply below_drewN | apply below_al))).out.2.2.2.1).mono ?_; rintro e w2 ⟨rfl, hb⟩; replace HI := HI.go2 (by repeat (first | exact Below.refl _ _ | apply Below.drew | apply below_drewN | apply below_al)) hb; clear hb; obtain ⟨⟨s0, s1, s2, s3, s4⟩, ⟨⟨p1, p2, p3, p4, p5, p6⟩, ⟨q1, q2, q3, q4, q5, q6⟩⟩, -⟩ := HI.out)
            | (go_at_call 46; refine (HME.out _ (HI.go (by repeat (first | exact Below.refl _ _ | apply Below.drew | apply below_drewN | apply below_al))).out.2.2.1.1.1 (HI.go (by repeat (first | exact Below.refl _ _ | apply Below.drew | apply below_drewN | apply below_al))).out.2.2.1.2.1).mono ?_; rintro e w3 ⟨M, n, rfl, hr, hb⟩; replace HI := HI.go2 (by repeat (first | exact Below.refl _ _ | apply Below.drew | apply below_drewN | apply below_al)) hb; clear hb; have hgm := HI.out.1.2.2.2.2; have HM : At (PBx w3.heap.size M mm n mr) _ := At.rb2 (q := mr) hr; have m1 := hr.1; have m2 := hr.2.1; clear hr; obtain ⟨⟨s0, s1, s2, s3, s4⟩, ⟨⟨p1, p2, p3, p4, p5, p6⟩, ⟨q1, q2, q3, q4, q5, q6⟩⟩, -⟩ := HI.out))
          go_loopg [17] 1 (fun g s17 wx => At (PRA w ex A c xs r B d ys t fx C e zs u D f vs v) wx ∧ At (PBx w3.heap.size M mm n mr) wx)
          case atStart => exact ⟨HI.go (by repeat (first | exact Below.refl _ _ | apply Below.drew | apply below_drewN | apply below_al)), HM⟩
          case round =>
            obtain ⟨HJ, HL⟩ := hrel
            clear HI HM
            obtain ⟨⟨s0, s1, s2, s3, s4⟩, ⟨⟨p1, p2, p3, p4, p5, p6⟩, ⟨q1, q2, q3, q4, q5, q6⟩⟩, -⟩ := HJ.out
            obtain ⟨⟨m3, m4, m5, m6, m7⟩, -⟩ := HL.out
            go_wp2_with (first
              | (go_at_call_of 26 (Value.agg #[.bool ex, .slice A xs.length c, .bool r, .slice B ys.length d, .bool t]); refine (HN1.out _ _ _ (HJ.go (by repeat (first | exact Below.refl _ _ | apply Below.drew | apply below_drewN | apply below_al))).out.2.2.1.1.1 (HJ.go (by repeat (first | exact Below.refl _ _ | apply Below.drew | apply below_drewN | apply below_al))).out.2.2.1.1.2 (HL.go (by repeat (first | exact Below.refl _ _ | apply Below.drew | apply below_drewN | apply below_al))).out.2 (HJ.go (by repeat (first | exact Below.refl _ _ | apply Below.drew | apply below_drewN | apply below_al))).out.2.2.2.1).mono ?_; rintro e w4 ⟨n1, E, k1, F, k2, rfl, hr, hr2, hb⟩; replace HL := HL.go2 (by repeat (first | exact Below.refl _ _ | apply Below.drew | apply below_drewN | apply below_al)) hb; replace HJ := HJ.go2 (by repeat (first | exact Below.refl _ _ | apply Below.drew | apply below_drewN | apply below_al)) hb; have HX := At.prb (ex := false) (l := xr) (q := lr) hr hr2; have d1 := hr.1; have d2 := hr.2.1; have d3 := hr2.1; have d4 := hr2.2.1; clear hr hr2; obtain ⟨⟨s0, s1, s2, s3, s4⟩, ⟨⟨p1, p2, p3, p4, p5, p6⟩, ⟨q1, q2, q3, q4, q5, q6⟩⟩, -⟩ := HJ.out; obtain ⟨⟨m3, m4, m5, m6, m7⟩, -⟩ := HL.out)
              | (go_at_call_of 26 (Value.agg #[.bool fx, .slice C zs.length e, .bool u, .slice D vs.length f, .bool v]); refine (HN2.out _ _ _ (HJ.go (by repeat (first | exact Below.refl _ _ | apply Below.drew | apply below_drewN | apply below_al))).out.2.2.1.2.1 (HJ.go (by repeat (first | exact Below.refl _ _ | apply Below.drew | apply below_drewN | apply below_al))).out.2.2.1.2.2 (HL.go (by repeat (first | exact Below.refl _ _ | apply Below.drew | apply below_drewN | apply below_al))).out.2 (HJ.go (by repeat (first | exact Below.refl _ _ | apply Below.drew | apply below_drewN | apply below_al))).out.2.2.2.1).mono ?_; rintro e w5 ⟨n2, G, k3, H, k4, rfl, hr, hr2, hb⟩; replace HL := HL.go2 (by repeat (first | exact Below.refl _ _ | apply Below.drew | apply below_drewN | apply below_al)) hb; replace HJ := HJ.go2 (by repeat (first | exact Below.refl _ _ | apply Below.drew | apply below_drewN | apply below_al)) hb; replace HX := HX.go2 (by repeat (first | exact Below.refl _ _ | apply Below.drew | apply below_drewN | apply below_al)) hb; have HY := At.prb (ex := false) (l := yr) (q := rr) hr hr2; have g1 := hr.1; have g2 := hr.2.1; have g3 := hr2.1; have g4 := hr2.2.1; clear hr hr2; obtain ⟨⟨s0, s1, s2, s3, s4⟩, ⟨⟨p1, p2, p3, p4, p5, p6⟩, ⟨q1, q2, q3, q4, q5, q6⟩⟩, -⟩ := HJ.out; obtain ⟨⟨m3, m4, m5, m6, m7⟩, -⟩ := HL.out; obtain ⟨⟨d5, d6, d7, d8, d9, d10⟩, -⟩ := HX.out)
              | fail)
            try rw [Exit.noGoto_ret]
            refine bodyPost_ret (v := .tuple #[.agg #[.slice none 0 0, .bool false], .bool false, .int .i64 43]) (by simp [results, Tryd.results33, go_sem, s0, s1, s2, s3, s4]) rfl (HBAD.out _ _ ⟨none, 0, rfl, RT.nil _ _ _ (by omega), ?_⟩)
            exact below_al (below_box HJ.out.2.2.2.2 (by omega) _ _) _
    · have hc2 : chkE xs r ys t zs u vs v = ruleE zs u vs v := by unfold chkE; rw [if_neg (by simp [h1])]
      have HBAD := Lib.hid (fun e' w' h => ag_bad (w := w) (e := e') (w' := w') (n := ruleE zs u vs v) hno (by unfold agE; rw [hc2, if_pos h2]) h)
      have hnB : (ruleE zs u vs v != 0) = true := by rw [bne_iff_ne]; exact h2
      rw [h1] at HK1
      obtain ⟨mr, hmr⟩ : ∃ mr, mr = false := ⟨_, rfl⟩
      unfold ruV at *
      clear hsx hsy hsz hsv hlx hlz h1 h2 HME hc2 hno hmr
      generalize ruleE zs u vs v = nn at *
      go_enter Tryd.func33, Tryd.ntmps33
      go_wp2_with (first
        | (go_at_call_of 22 (Value.agg #[.bool ex, .slice A xs.length c, .bool r, .slice B ys.length d, .bool t]); refine (HK1.out _ (HI.go (by repeat (first | exact Below.refl _ _ | apply Below.drew | apply below_drewN | apply below_al))).out.2.2.1.1.1 (HI.go (by repeat (first | exact Below.refl _ _ | apply Below.drew | apply below_drewN | apply below_al))).out.2.2.1.1.2 (HI.go (by repeat (first | exact Below.refl _ _ | apply Below.drew | apply below_drewN | apply below_al))).out.2.2.2.1).mono ?_; rintro e w1 ⟨rfl, hb⟩; replace HI := HI.go2 (by repeat (first | exact Below.refl _ _ | apply Below.drew | apply below_drewN | apply below_al)) hb; clear hb; obtain ⟨⟨s0, s1, s2, s3, s4⟩, ⟨⟨p1, p2, p3, p4, p5, p6⟩, ⟨q1, q2, q3, q4, q5, q6⟩⟩, -⟩ := HI.out)
        | (go_at_call_of 22 (Value.agg #[.bool fx, .slice C zs.length e, .bool u, .slice D vs.length f, .bool v]); refine (HK2.out _ (HI.go (by repeat (first | exact Below.refl _ _ | apply Below.drew | apply below_drewN | apply below_al))).out.2.2.1.2.1 (HI.go (by repeat (first | exact Below.refl _ _ | apply Below.drew | apply below_drewN | apply below_al))).out.2.2.1.2.2 (HI.go (by repeat (first | exact Below.refl _ _ | apply Below.drew | apply below_drewN | apply below_al))).out.2.2.2.1).mono ?_; rintro e w2 ⟨rfl, hb⟩; replace HI := HI.go2 (by repeat (first | exact Below.refl _ _ | apply Below.drew | apply below_drewN | apply below_al)) hb; clear hb; obtain ⟨⟨s0, s1, s2, s3, s4⟩, ⟨⟨p1, p2, p3, p4, p5, p6⟩, ⟨q1, q2, q3, q4, q5, q6⟩⟩, -⟩ := HI.out)
        | (go_at_call 46; refine (HME.out _ (HI.go (by repeat (first | exact Below.refl _ _ | apply Below.drew | apply below_drewN | apply below_al))).out.2.2.1.1.1 (HI.go (by repeat (first | exact Below.refl _ _ | apply Below.drew | apply below_drewN | apply below_al))).out.2.2.1.2.1).mono ?_; rintro e w3 ⟨M, n, rfl, hr, hb⟩; replace HI := HI.go2 (by repeat (first | exact Below.refl _ _ | apply Below.drew | apply below_drewN | apply below_al)) hb; clear hb; have hgm := HI.out.1.2.2.2.2; have HM : At (PBx w3.heap.size M [] n mr) _ := At.rb2 (q := mr) hr; have m1 := hr.1; have m2 := hr.2.1; clear hr; obtain ⟨⟨s0, s1, s2, s3, s4⟩, ⟨⟨p1, p2, p3, p4, p5, p6⟩, ⟨q1, q2, q3, q4, q5, q6⟩⟩, -⟩ := HI.out))
      refine bodyPost_ret (v := .tuple #[.agg #[.slice none 0 0, .bool false], .bool false, .int .i64 nn]) (by simp [results, Tryd.results33, go_sem, s0, s1, s2, s3, s4]) rfl (HBAD.out _ _ ⟨none, 0, rfl, RT.nil _ _ _ (by omega), ?_⟩)
      exact below_box HI.out.2.2.2.2 (by omega) _ _
  · have hc1 : chkE xs r ys t zs u vs v = ruleE xs r ys t := by unfold chkE; rw [if_pos h1]
    have HBAD := Lib.hid (fun e' w' h => ag_bad (w := w) (e := e') (w' := w') (n := ruleE xs r ys t) hno (by unfold agE; rw [hc1, if_pos h1]) h)
    have hnB : (ruleE xs r ys t != 0) = true := by rw [bne_iff_ne]; exact h1
    obtain ⟨mr, hmr⟩ : ∃ mr, mr = false := ⟨_, rfl⟩
    unfold ruV at *
    clear hsx hsy hsz hsv hlx hlz h1 HME HK2 hc1 hno hmr
    generalize ruleE xs r ys t = nn at *
    go_enter Tryd.func33, Tryd.ntmps33
    go_wp2_with (first
      | (go_at_call_of 22 (Value.agg #[.bool ex, .slice A xs.length c, .bool r, .slice B ys.length d, .bool t]); refine (HK1.out _ (HI.go (by repeat (first | exact Below.refl _ _ | apply Below.drew | apply below_drewN | apply below_al))).out.2.2.1.1.1 (HI.go (by repeat (first | exact Below.refl _ _ | apply Below.drew | apply below_drewN | apply below_al))).out.2.2.1.1.2 (HI.go (by repeat (first | exact Below.refl _ _ | apply Below.drew | apply below_drewN | apply below_al))).out.2.2.2.1).mono ?_; rintro e w1 ⟨rfl, hb⟩; replace HI := HI.go2 (by repeat (first | exact Below.refl _ _ | apply Below.drew | apply below_drewN | apply below_al)) hb; clear hb; obtain ⟨⟨s0, s1, s2, s3, s4⟩, ⟨⟨p1, p2, p3, p4, p5, p6⟩, ⟨q1, q2, q3, q4, q5, q6⟩⟩, -⟩ := HI.out)
      | (go_at_call_of 22 (Value.agg #[.bool fx, .slice C zs.length e, .bool u, .slice D vs.length f, .bool v]); refine (HK2.out _ (HI.go (by repeat (first | exact Below.refl _ _ | apply Below.drew | apply below_drewN | apply below_al))).out.2.2.1.2.1 (HI.go (by repeat (first | exact Below.refl _ _ | apply Below.drew | apply below_drewN | apply below_al))).out.2.2.1.2.2 (HI.go (by repeat (first | exact Below.refl _ _ | apply Below.drew | apply below_drewN | apply below_al))).out.2.2.2.1).mono ?_; rintro e w2 ⟨rfl, hb⟩; replace HI := HI.go2 (by repeat (first | exact Below.refl _ _ | apply Below.drew | apply below_drewN | apply below_al)) hb; clear hb; obtain ⟨⟨s0, s1, s2, s3, s4⟩, ⟨⟨p1, p2, p3, p4, p5, p6⟩, ⟨q1, q2, q3, q4, q5, q6⟩⟩, -⟩ := HI.out)
      | (go_at_call 46; refine (HME.out _ (HI.go (by repeat (first | exact Below.refl _ _ | apply Below.drew | apply below_drewN | apply below_al))).out.2.2.1.1.1 (HI.go (by repeat (first | exact Below.refl _ _ | apply Below.drew | apply below_drewN | apply below_al))).out.2.2.1.2.1).mono ?_; rintro e w3 ⟨M, n, rfl, hr, hb⟩; replace HI := HI.go2 (by repeat (first | exact Below.refl _ _ | apply Below.drew | apply below_drewN | apply below_al)) hb; clear hb; have hgm := HI.out.1.2.2.2.2; have HM : At (PBx w3.heap.size M [] n mr) _ := At.rb2 (q := mr) hr; have m1 := hr.1; have m2 := hr.2.1; clear hr; obtain ⟨⟨s0, s1, s2, s3, s4⟩, ⟨⟨p1, p2, p3, p4, p5, p6⟩, ⟨q1, q2, q3, q4, q5, q6⟩⟩, -⟩ := HI.out))
    refine bodyPost_ret (v := .tuple #[.agg #[.slice none 0 0, .bool false], .bool false, .int .i64 nn]) (by simp [results, Tryd.results33, go_sem, s0, s1, s2, s3, s4]) rfl (HBAD.out _ _ ⟨none, 0, rfl, RT.nil _ _ _ (by omega), ?_⟩)
    exact below_box HI.out.2.2.2.2 (by omega) _ _
end Go.Proofs.YtidjmbmnfnnleaaDoor

