/-
  Several texts in one: Fu, A6, A9, RuleAgrees, RuleAgreeMeans.
-/
import Derived.Test.YtidjmbmnfnnleaaDoorMF
import Derived.Deep.Strs
import Derived.Test.YtidjmbmnfnnleaaDoorA5
import Derived.Test.YtidjmbmnfnnleaaDoorA6a
import Derived.Test.YtidjmbmnfnnleaaDoorA8
import Derived.Test.YtidjmbmnfnnleaaDoorMR

/-
  A parameter that is a rule, opened.
-/
namespace Go.Proofs.YtidjmbmnfnnleaaDoor
set_option linter.unusedSimpArgs false
set_option linter.unusedVariables false
open Go.ChangeShapes Go.WideShapes Go.ChangeAt Go.RowKit

theorem open_pattern_of {H : Type} {enc : TypeId × Value → H} {P : Program} {W : World} {base : Nat} {t ts tb e : TypeId} {f0 f1 : Field} {u0 u1 : Value} {fuel : Nat} {x : DataW H × List MemPlace}
    (ht : P.underlying t = some (.struct #[f0, f1])) (h0 : f0.type = ts) (o0 : f0.offset = 0) (h1 : f1.type = tb) (o1 : f1.offset = 1)
    (hs : P.underlying ts = some (.slice e)) (he : P.underlying e = some .string) (hb : P.underlying tb = some .bool)
    (c0 : P.cellsOf ts = 1) (c1 : P.cellsOf tb = 1) (ce : P.cellsOf e = 1)
    (hf : DataW.trod enc P W base (fun _ => true) true fuel t [u0, u1] = some x) (hlt : ∀ y ∈ x.2, y.block < W.heap.size) :
    ∃ xs : List ByteArray, ∃ A c q, u0 = .slice A xs.length c ∧ u1 = .bool q ∧ RT W A c xs ∧ (∀ x ∈ xs, x.size ≤ maxLen) ∧ ((x.1.weights P t).all (· ≤ reachBytes) = true → ∀ x ∈ xs, x.size ≤ reachBytes) := by
  obtain ⟨y0, y1, n, rfl, _, g0, g1⟩ := trod_struct2 ht hf
  rw [h0, o0, c0] at g0
  rw [h1, o1, c1] at g1
  have g0' : DataW.trod enc P W base (fun _ => true) true n ts [u0] = some y0 := g0
  have g1' : DataW.trod enc P W base (fun _ => true) true n tb [u1] = some y1 := g1
  obtain ⟨xs, A, c, rfl, hr, hz, hw⟩ := open_texts_of hs he ce g0' (fun y hy => hlt y (List.mem_append_left _ hy))
  obtain ⟨q, hq, _⟩ := DataW.trod_bool hb g1'
  obtain rfl : u1 = .bool q := by simpa using hq
  refine ⟨xs, A, c, q, rfl, rfl, hr, hz, fun hwt => hw ?_⟩
  simp only [DataW.weights, ht] at hwt
  simp only [List.map_cons, DataW.weightsEach, h0] at hwt
  rw [List.all_append, Bool.and_eq_true] at hwt
  exact hwt.1

theorem open_rule {H : Type} {enc : TypeId × Value → H} {P : Program} {W : World} {base : Nat} {t tp ts tb e : TypeId} {f0 f1 f2 g0 g1 : Field} {v : Value} {d : DataW H} {p : List MemPlace} {r : Reach} {b0 : Nat}
    (ht : P.underlying t = some (.struct #[f0, f1, f2])) (k0 : f0.type = tb) (p0 : f0.offset = 0) (k1 : f1.type = tp) (p1 : f1.offset = 1) (k2 : f2.type = tp) (p2 : f2.offset = 3)
    (hp : P.underlying tp = some (.struct #[g0, g1])) (h0 : g0.type = ts) (o0 : g0.offset = 0) (h1 : g1.type = tb) (o1 : g1.offset = 1)
    (hs : P.underlying ts = some (.slice e)) (he : P.underlying e = some .string) (hb : P.underlying tb = some .bool)
    (c0 : P.cellsOf ts = 1) (c1 : P.cellsOf tb = 1) (cp : P.cellsOf tp = 2) (ct : P.cellsOf t = 5) (ce : P.cellsOf e = 1) (hv : Value.okWide P W r b0 t v)
    (h : DataW.Trod enc P W base (fun _ => true) true t v d p) (hlt : ∀ x ∈ p, x.block < W.heap.size) :
    ∃ (ex : Bool) (xs : List ByteArray) (A : Option Addr) (c : Nat) (q : Bool) (ys : List ByteArray) (B : Option Addr) (m : Nat) (s : Bool), v = .agg #[.bool ex, .slice A xs.length c, .bool q, .slice B ys.length m, .bool s] ∧
      RT W A c xs ∧ (∀ x ∈ xs, x.size ≤ maxLen) ∧ RT W B m ys ∧ (∀ x ∈ ys, x.size ≤ maxLen) ∧ ((d.weights P t).all (· ≤ reachBytes) = true → (∀ x ∈ xs, x.size ≤ reachBytes) ∧ (∀ x ∈ ys, x.size ≤ reachBytes)) := by
  obtain ⟨cs, rfl, hcs⟩ := okWide_struct ht hv
  rw [ct] at hcs
  obtain ⟨u0, u1, u2, u3, u4, rfl⟩ : ∃ u0 u1 u2 u3 u4, cs = #[u0, u1, u2, u3, u4] := by
    obtain ⟨l⟩ := cs
    match l, hcs with
    | [a, b, c, d, e], _ => exact ⟨a, b, c, d, e, rfl⟩
  obtain ⟨fuel, hf⟩ := h
  obtain ⟨y0, y1, y2, n, hx, _, t0, t1, t2⟩ := Go.Deep.trod_struct3 ht hf
  rw [k0, p0, c1] at t0
  rw [k1, p1, cp] at t1
  rw [k2, p2, cp] at t2
  simp only [Prod.mk.injEq] at hx
  obtain ⟨rfl, rfl⟩ := hx
  have t0' : DataW.trod enc P W base (fun _ => true) true n tb [u0] = some y0 := t0
  have t1' : DataW.trod enc P W base (fun _ => true) true n tp [u1, u2] = some y1 := t1
  have t2' : DataW.trod enc P W base (fun _ => true) true n tp [u3, u4] = some y2 := t2
  obtain ⟨ex, hq, _⟩ := DataW.trod_bool hb t0'
  obtain rfl : u0 = .bool ex := by simpa using hq
  obtain ⟨xs, A, c, q, rfl, rfl, hr, hz, hw⟩ := open_pattern_of hp h0 o0 h1 o1 hs he hb c0 c1 ce t1' (fun y hy => hlt y (List.mem_append_right _ (List.mem_append_left _ hy)))
  obtain ⟨ys, B, m, s, rfl, rfl, kr, kz, kw⟩ := open_pattern_of hp h0 o0 h1 o1 hs he hb c0 c1 ce t2' (fun y hy => hlt y (List.mem_append_right _ (List.mem_append_right _ hy)))
  refine ⟨ex, xs, A, c, q, ys, B, m, s, rfl, hr, hz, kr, kz, fun hwt => ?_⟩
  simp only [DataW.weights, ht] at hwt
  simp only [List.map_cons, DataW.weightsEach, k0, k1, k2] at hwt
  rw [List.all_append, Bool.and_eq_true, List.all_append, Bool.and_eq_true, List.all_append, Bool.and_eq_true] at hwt
  exact ⟨hw hwt.2.1, kw hwt.2.2.1⟩
end Go.Proofs.YtidjmbmnfnnleaaDoor

/-
  Rules: the walk of Agree.
-/
namespace Go.Proofs.YtidjmbmnfnnleaaDoor
set_option linter.unusedSimpArgs false
set_option linter.unusedVariables false
open Go.RowKit
open Pm

set_option maxHeartbeats 16000000 in
theorem agree_any (ex : Bool) (A : Option Addr) (c : Nat) (xs : List ByteArray) (r : Bool) (B : Option Addr) (d : Nat) (ys : List ByteArray) (t : Bool) (fx : Bool) (C : Option Addr) (e : Nat) (zs : List ByteArray) (u : Bool) (D : Option Addr) (f : Nat) (vs : List ByteArray) (v : Bool) (w : World) (h : RT w A c xs) (k : RT w B d ys) (h' : RT w C e zs) (k' : RT w D f vs) (hm : ML w)
    (bx : sumB xs ≤ 300) (bY : sumB ys ≤ 300) (bz : sumB zs ≤ 300) (bv : sumB vs ≤ 300) (hlx : xs.length ≤ 5000) (hlz : zs.length ≤ 5000) :
    Calls Tryd.prog 32 #[ruV ex A c xs r B d ys t, ruV fx C e zs u D f vs v] w (RetAg w xs r ys t zs u vs v) := by
  have hsx : ∀ x ∈ xs, x.size ≤ 5000 := fun x hx => by have := sum_mem hx; omega
  have hsy : ∀ x ∈ ys, x.size ≤ 5000 := fun x hx => by have := sum_mem hx; omega
  have hsz : ∀ x ∈ zs, x.size ≤ 5000 := fun x hx => by have := sum_mem hx; omega
  have hsv : ∀ x ∈ vs, x.size ≤ 5000 := fun x hx => by have := sum_mem hx; omega
  have HI := PRA.enter h k h' k' hm ex r t fx u v 26 24
  have HCK := Lib.hid (fun w h k h' k' m => checkBoth_any ex A c xs r B d ys t fx C e zs u D f vs v w h k h' k' m hsx hsy hsz hsv)
  have HME := Lib.hid (fun w h l => (meet_any A C c e xs zs r u w h l (five9 hsx) (five9 hsz)).mono fun _ _ h => RetM.two h)
  have hx1 := h.1
  have hx2 := h.2.1
  have hy1 := k.1
  have hy2 := k.2.1
  have hz1 := h'.1
  have hz2 := h'.2.1
  have hv1 := k'.1
  have hv2 := k'.2.1
  clear h k h' k' hm
  by_cases h1 : chkE xs r ys t zs u vs v = 0
  · rw [h1] at HCK
    cases h3 : meetOk xs zs r u with
    | false =>
      have HBAD := Lib.hid (fun e' w' h => ag_bad (w := w) (e := e') (w' := w') (xs := xs) (ys := ys) (zs := zs) (vs := vs) (r := r) (t := t) (u := u) (v := v) (n := 0) (by unfold agG; rw [h3]; simp) (by unfold agE; rw [if_neg (by simp [h1]), if_pos h3]) h)
      rw [h3] at HME
      simp only [Bool.false_eq_true, if_false] at HME
      obtain ⟨mr, hmr⟩ : ∃ mr, mr = false := ⟨_, rfl⟩
      unfold ruV at *
      clear hsx hsy hsz hsv hlx hlz h1 h3 hmr bx bY bz bv
      go_enter Tryd.func32, Tryd.ntmps32
      go_wp2_with (first
        | (go_at_call 49; refine (HCK.out _ (HI.go (by repeat (first | exact Below.refl _ _ | apply Below.drew | apply below_drewN | apply below_al))).out.2.2.1.1.1 (HI.go (by repeat (first | exact Below.refl _ _ | apply Below.drew | apply below_drewN | apply below_al))).out.2.2.1.1.2 (HI.go (by repeat (first | exact Below.refl _ _ | apply Below.drew | apply below_drewN | apply below_al))).out.2.2.1.2.1 (HI.go (by repeat (first | exact Below.refl _ _ | apply Below.drew | apply below_drewN | apply below_al))).out.2.2.1.2.2 (HI.go (by repeat (first | exact Below.refl _ _ | apply Below.drew | apply below_drewN | apply below_al))).out.2.2.2.1).mono ?_; rintro e w1 ⟨rfl, hb⟩; replace HI := HI.go2 (by repeat (first | exact Below.refl _ _ | apply Below.drew | apply below_drewN | apply below_al)) hb; clear hb; obtain ⟨⟨s0, s1, s2, s3, s4⟩, ⟨⟨p1, p2, p3, p4, p5, p6⟩, ⟨q1, q2, q3, q4, q5, q6⟩⟩, -⟩ := HI.out)
        | (go_at_call 44; refine (HME.out _ (HI.go (by repeat (first | exact Below.refl _ _ | apply Below.drew | apply below_drewN | apply below_al))).out.2.2.1.1.1 (HI.go (by repeat (first | exact Below.refl _ _ | apply Below.drew | apply below_drewN | apply below_al))).out.2.2.1.2.1).mono ?_; rintro e w3 ⟨M, n, rfl, hr, hb⟩; replace HI := HI.go2 (by repeat (first | exact Below.refl _ _ | apply Below.drew | apply below_drewN | apply below_al)) hb; clear hb; have HM := At.rb2 (q := mr) hr; have m1 := hr.1; have m2 := hr.2.1; clear hr; obtain ⟨⟨s0, s1, s2, s3, s4⟩, ⟨⟨p1, p2, p3, p4, p5, p6⟩, ⟨q1, q2, q3, q4, q5, q6⟩⟩, -⟩ := HI.out)
        | (go_at_call_of 45 (Value.agg #[.slice A xs.length c, .bool r]); refine (HC1.out _ _ _ (HI.go (by repeat (first | exact Below.refl _ _ | apply Below.drew | apply below_drewN | apply below_al))).out.2.2.1.1.1 (HM.go (by repeat (first | exact Below.refl _ _ | apply Below.drew | apply below_drewN | apply below_al))).out.2 (HI.go (by repeat (first | exact Below.refl _ _ | apply Below.drew | apply below_drewN | apply below_al))).out.2.2.1.1.2 (HI.go (by repeat (first | exact Below.refl _ _ | apply Below.drew | apply below_drewN | apply below_al))).out.2.2.2.1).mono ?_; rintro e w4 ⟨E, k, rfl, hr, hb⟩; replace HM := HM.go2 (by repeat (first | exact Below.refl _ _ | apply Below.drew | apply below_drewN | apply below_al)) hb; replace HI := HI.go2 (by repeat (first | exact Below.refl _ _ | apply Below.drew | apply below_drewN | apply below_al)) hb; clear hb; have HD := At.rb2 (q := lr) hr; have d1 := hr.1; have d2 := hr.2.1; clear hr; obtain ⟨⟨s0, s1, s2, s3, s4⟩, ⟨⟨p1, p2, p3, p4, p5, p6⟩, ⟨q1, q2, q3, q4, q5, q6⟩⟩, -⟩ := HI.out; obtain ⟨⟨m3, m4, m5, m6, m7⟩, -⟩ := HM.out)
        | (go_at_call_of 45 (Value.agg #[.slice C zs.length e, .bool u]); refine (HC2.out _ _ _ (HI.go (by repeat (first | exact Below.refl _ _ | apply Below.drew | apply below_drewN | apply below_al))).out.2.2.1.2.1 (HM.go (by repeat (first | exact Below.refl _ _ | apply Below.drew | apply below_drewN | apply below_al))).out.2 (HI.go (by repeat (first | exact Below.refl _ _ | apply Below.drew | apply below_drewN | apply below_al))).out.2.2.1.2.2 (HI.go (by repeat (first | exact Below.refl _ _ | apply Below.drew | apply below_drewN | apply below_al))).out.2.2.2.1).mono ?_; rintro e w5 ⟨G, l, rfl, hr, hb⟩; replace HM := HM.go2 (by repeat (first | exact Below.refl _ _ | apply Below.drew | apply below_drewN | apply below_al)) hb; replace HD := HD.go2 (by repeat (first | exact Below.refl _ _ | apply Below.drew | apply below_drewN | apply below_al)) hb; replace HI := HI.go2 (by repeat (first | exact Below.refl _ _ | apply Below.drew | apply below_drewN | apply below_al)) hb; clear hb; have HG := At.rb2 (q := rr) hr; have g1 := hr.1; have g2 := hr.2.1; clear hr; obtain ⟨⟨s0, s1, s2, s3, s4⟩, ⟨⟨p1, p2, p3, p4, p5, p6⟩, ⟨q1, q2, q3, q4, q5, q6⟩⟩, -⟩ := HI.out; obtain ⟨⟨d3, d4, d5, d6, d7⟩, -⟩ := HD.out; obtain ⟨⟨m3, m4, m5, m6, m7⟩, -⟩ := HM.out)
        | (go_at_call 50; refine (HEQ.out _ _ _ _ _ _ _ (HM.go (by repeat (first | exact Below.refl _ _ | apply Below.drew | apply below_drewN | apply below_al))).out.2 (HD.go (by repeat (first | exact Below.refl _ _ | apply Below.drew | apply below_drewN | apply below_al))).out.2 (HG.go (by repeat (first | exact Below.refl _ _ | apply Below.drew | apply below_drewN | apply below_al))).out.2 (HI.go (by repeat (first | exact Below.refl _ _ | apply Below.drew | apply below_drewN | apply below_al))).out.2.2.2.1).mono ?_; rintro e w6 ⟨F, i, rfl, hr, hb⟩; replace HM := HM.go2 (by repeat (first | exact Below.refl _ _ | apply Below.drew | apply below_drewN | apply below_al)) hb; replace HI := HI.go2 (by repeat (first | exact Below.refl _ _ | apply Below.drew | apply below_drewN | apply below_al)) hb; clear hb; have HR := Lib.hid hr; have i1 := hr.1; have i2 := hr.2.1; clear hr; obtain ⟨⟨s0, s1, s2, s3, s4⟩, ⟨⟨p1, p2, p3, p4, p5, p6⟩, ⟨q1, q2, q3, q4, q5, q6⟩⟩, -⟩ := HI.out; obtain ⟨⟨m3, m4, m5, m6, m7⟩, -⟩ := HM.out))
      refine bodyPost_ret (v := .tuple #[.agg #[.slice none 0 0, .bool false], .bool false, .int .i64 0]) (by simp [results, Tryd.results32, go_sem, s0, s1, s2, s3, s4]) rfl (HBAD.out _ _ ⟨none, 0, rfl, RT.nil _ _ _ (by omega), ?_⟩)
      exact below_al (below_box HI.out.2.2.2.2 (by omega) _ _) _
    | true =>
      rw [h3] at HME
      simp only [if_true] at HME
      have hms : ∀ z ∈ meetL xs zs, z.size ≤ 5000 := fun z hz => (meetL_mem h3 hz).elim (hsx z) (hsz z)
      have hml : (meetL xs zs).length ≤ 5000 := by
        unfold meetL
        split
        · rw [mzAll_len (by omega)]; exact hlz
        · rw [mzAll_len (by omega)]; exact hlx
      have HC1 := Lib.hid (fun M n w h m k hm => carry_any A c xs r M n (meetL xs zs) (r && u) B d ys t w h m k hm hsx hms hml hsy)
      have HC2 := Lib.hid (fun M n w h m k hm => carry_any C e zs u M n (meetL xs zs) (r && u) D f vs v w h m k hm hsz hms hml hsv)
      have HCE1 : Hid (carE xs r (meetL xs zs) (r && u) ys t = if subE ys t (bndB xs r (meetL xs zs) (r && u)) = 0 then 0 else 43) := Lib.hid rfl
      have HCE2 : Hid (carE zs u (meetL xs zs) (r && u) vs v = if subE vs v (bndB zs u (meetL xs zs) (r && u)) = 0 then 0 else 43) := Lib.hid rfl
      by_cases h4 : subE ys t (bndB xs r (meetL xs zs) (r && u)) = 0
      · have hce1 : carE xs r (meetL xs zs) (r && u) ys t = 0 := by rw [HCE1.out, if_pos h4]
        rw [hce1] at HC1
        by_cases h5 : subE vs v (bndB zs u (meetL xs zs) (r && u)) = 0
        · have hce2 : carE zs u (meetL xs zs) (r && u) vs v = 0 := by rw [HCE2.out, if_pos h5]
          have hgood : agG xs r ys t zs u vs v = true := ag_parts.2 ⟨h1, h3, hce1, hce2⟩
          have hA := ag_start hgood
          have hZ := ag_size hgood bx bY bz bv
          have hP := hA.parts
          have p1 := check_zero hP.1
          have p2 := check_zero hP.2.1
          have p3 := check_zero hP.2.2
          have HEQ := Lib.hid (fun M n E k G l w h1 h2 h3 hm => equalize_any M n (meetL xs zs) (r && u) E k (carL xs r (meetL xs zs) (r && u) ys t) G l (carL zs u (meetL xs zs) (r && u) vs v) w h1 h2 h3 hm (fun e => hA.es e) hZ p1.1 p2.1 p3.1 (by have := p1.2.1; omega) (by have := p2.2.1; omega) (by have := p3.2.1; omega))
          have HGOOD : Hid (∀ e' w', RetA w (eqT (meetL xs zs) (carL xs r (meetL xs zs) (r && u) ys t) (carL zs u (meetL xs zs) (r && u) vs v)).1 ((eqT (meetL xs zs) (carL xs r (meetL xs zs) (r && u) ys t) (carL zs u (meetL xs zs) (r && u) vs v)).2 && (r && u)) (eqT (meetL xs zs) (carL xs r (meetL xs zs) (r && u) ys t) (carL zs u (meetL xs zs) (r && u) vs v)).2 0 e' w' → RetAg w xs r ys t zs u vs v e' w') := Lib.hid (fun e' w' h => by
            unfold RetAg agZ agE
            rw [if_pos hgood, if_neg (by simp [h1]), if_neg (by simp [h3]), if_neg (by simp [hce1]), hce2]
            exact h)
          rw [hce2] at HC2
          rw [hA.2.2.2.1] at HC1
          rw [hA.2.2.2.2] at HC2
          unfold RetP at HC1 HC2
          unfold RetM at HEQ
          unfold RetA at HGOOD
          unfold ruV at *
          clear hA hZ hP p1 p2 p3 hgood
          generalize eqT (meetL xs zs) (carL xs r (meetL xs zs) (r && u) ys t) (carL zs u (meetL xs zs) (r && u) vs v) = fin at *
          obtain ⟨us, ok⟩ := fin
          generalize carL xs r (meetL xs zs) (r && u) ys t = ll at *
          generalize carL zs u (meetL xs zs) (r && u) vs v = rl at *
          generalize meetL xs zs = mm at *
          generalize hmr : (r && u) = mr at *
          clear hsx hsy hsz hsv hlx hlz h1 h3 hms hml HCE1 HCE2 h4 h5 hce1 hce2 hmr bx bY bz bv
          go_enter Tryd.func32, Tryd.ntmps32
          go_wp2_with (first
            | (go_at_call 49; refine (HCK.out _ (HI.go (by repeat (first | exact Below.refl _ _ | apply Below.drew | apply below_drewN | apply below_al))).out.2.2.1.1.1 (HI.go (by repeat (first | exact Below.refl _ _ | apply Below.drew | apply below_drewN | apply below_al))).out.2.2.1.1.2 (HI.go (by repeat (first | exact Below.refl _ _ | apply Below.drew | apply below_drewN | apply below_al))).out.2.2.1.2.1 (HI.go (by repeat (first | exact Below.refl _ _ | apply Below.drew | apply below_drewN | apply below_al))).out.2.2.1.2.2 (HI.go (by repeat (first | exact Below.refl _ _ | apply Below.drew | apply below_drewN | apply below_al))).out.2.2.2.1).mono ?_; rintro e w1 ⟨rfl, hb⟩; replace HI := HI.go2 (by repeat (first | exact Below.refl _ _ | apply Below.drew | apply below_drewN | apply below_al)) hb; clear hb; obtain ⟨⟨s0, s1, s2, s3, s4⟩, ⟨⟨p1, p2, p3, p4, p5, p6⟩, ⟨q1, q2, q3, q4, q5, q6⟩⟩, -⟩ := HI.out)
            | (go_at_call 44; refine (HME.out _ (HI.go (by repeat (first | exact Below.refl _ _ | apply Below.drew | apply below_drewN | apply below_al))).out.2.2.1.1.1 (HI.go (by repeat (first | exact Below.refl _ _ | apply Below.drew | apply below_drewN | apply below_al))).out.2.2.1.2.1).mono ?_; rintro e w3 ⟨M, n, rfl, hr, hb⟩; replace HI := HI.go2 (by repeat (first | exact Below.refl _ _ | apply Below.drew | apply below_drewN | apply below_al)) hb; clear hb; have HM := At.rb2 (q := mr) hr; have m1 := hr.1; have m2 := hr.2.1; clear hr; obtain ⟨⟨s0, s1, s2, s3, s4⟩, ⟨⟨p1, p2, p3, p4, p5, p6⟩, ⟨q1, q2, q3, q4, q5, q6⟩⟩, -⟩ := HI.out)
            | (go_at_call_of 45 (Value.agg #[.slice A xs.length c, .bool r]); refine (HC1.out _ _ _ (HI.go (by repeat (first | exact Below.refl _ _ | apply Below.drew | apply below_drewN | apply below_al))).out.2.2.1.1.1 (HM.go (by repeat (first | exact Below.refl _ _ | apply Below.drew | apply below_drewN | apply below_al))).out.2 (HI.go (by repeat (first | exact Below.refl _ _ | apply Below.drew | apply below_drewN | apply below_al))).out.2.2.1.1.2 (HI.go (by repeat (first | exact Below.refl _ _ | apply Below.drew | apply below_drewN | apply below_al))).out.2.2.2.1).mono ?_; rintro e w4 ⟨E, k, rfl, hr, hb⟩; replace HM := HM.go2 (by repeat (first | exact Below.refl _ _ | apply Below.drew | apply below_drewN | apply below_al)) hb; replace HI := HI.go2 (by repeat (first | exact Below.refl _ _ | apply Below.drew | apply below_drewN | apply below_al)) hb; clear hb; have HD := At.rb2 (q := mr) hr; have d1 := hr.1; have d2 := hr.2.1; clear hr; obtain ⟨⟨s0, s1, s2, s3, s4⟩, ⟨⟨p1, p2, p3, p4, p5, p6⟩, ⟨q1, q2, q3, q4, q5, q6⟩⟩, -⟩ := HI.out; obtain ⟨⟨m3, m4, m5, m6, m7⟩, -⟩ := HM.out)
            | (go_at_call_of 45 (Value.agg #[.slice C zs.length e, .bool u]); refine (HC2.out _ _ _ (HI.go (by repeat (first | exact Below.refl _ _ | apply Below.drew | apply below_drewN | apply below_al))).out.2.2.1.2.1 (HM.go (by repeat (first | exact Below.refl _ _ | apply Below.drew | apply below_drewN | apply below_al))).out.2 (HI.go (by repeat (first | exact Below.refl _ _ | apply Below.drew | apply below_drewN | apply below_al))).out.2.2.1.2.2 (HI.go (by repeat (first | exact Below.refl _ _ | apply Below.drew | apply below_drewN | apply below_al))).out.2.2.2.1).mono ?_; rintro e w5 ⟨G, l, rfl, hr, hb⟩; replace HM := HM.go2 (by repeat (first | exact Below.refl _ _ | apply Below.drew | apply below_drewN | apply below_al)) hb; replace HD := HD.go2 (by repeat (first | exact Below.refl _ _ | apply Below.drew | apply below_drewN | apply below_al)) hb; replace HI := HI.go2 (by repeat (first | exact Below.refl _ _ | apply Below.drew | apply below_drewN | apply below_al)) hb; clear hb; have HG := At.rb2 (q := mr) hr; have g1 := hr.1; have g2 := hr.2.1; clear hr; obtain ⟨⟨s0, s1, s2, s3, s4⟩, ⟨⟨p1, p2, p3, p4, p5, p6⟩, ⟨q1, q2, q3, q4, q5, q6⟩⟩, -⟩ := HI.out; obtain ⟨⟨d3, d4, d5, d6, d7⟩, -⟩ := HD.out; obtain ⟨⟨m3, m4, m5, m6, m7⟩, -⟩ := HM.out)
            | (go_at_call 50; refine (HEQ.out _ _ _ _ _ _ _ (HM.go (by repeat (first | exact Below.refl _ _ | apply Below.drew | apply below_drewN | apply below_al))).out.2 (HD.go (by repeat (first | exact Below.refl _ _ | apply Below.drew | apply below_drewN | apply below_al))).out.2 (HG.go (by repeat (first | exact Below.refl _ _ | apply Below.drew | apply below_drewN | apply below_al))).out.2 (HI.go (by repeat (first | exact Below.refl _ _ | apply Below.drew | apply below_drewN | apply below_al))).out.2.2.2.1).mono ?_; rintro e w6 ⟨F, i, rfl, hr, hb⟩; replace HM := HM.go2 (by repeat (first | exact Below.refl _ _ | apply Below.drew | apply below_drewN | apply below_al)) hb; replace HI := HI.go2 (by repeat (first | exact Below.refl _ _ | apply Below.drew | apply below_drewN | apply below_al)) hb; clear hb; have HR := Lib.hid hr; have i1 := hr.1; have i2 := hr.2.1; clear hr; obtain ⟨⟨s0, s1, s2, s3, s4⟩, ⟨⟨p1, p2, p3, p4, p5, p6⟩, ⟨q1, q2, q3, q4, q5, q6⟩⟩, -⟩ := HI.out; obtain ⟨⟨m3, m4, m5, m6, m7⟩, -⟩ := HM.out))
          refine bodyPost_ret (v := .tuple #[.agg #[.slice F us.length i, .bool (ok && mr)], .bool ok, .int .i64 0]) (by simp [results, Tryd.results32, go_sem, s0, s1, s2, s3, s4, m3, m4, m5, m6]) rfl (HGOOD.out _ _ ⟨F, i, rfl, ?_, ?_⟩)
          · exact (HR.out.box HM.out.1 (slice_ns _ _ _) (bool_ns _) _ _).box ((HI.out.1.set_cell _ (by simp; omega) _).set_cell _ (by simp; omega) _) (slice_ns _ _ _) (bool_ns _) _ _
          · exact below_box (below_box HI.out.2.2.2.2 (by omega) _ _) (by omega) _ _
        · have hce2 : carE zs u (meetL xs zs) (r && u) vs v = 43 := by rw [HCE2.out, if_neg h5]
          have HBAD := Lib.hid (fun e' w' h => ag_bad (w := w) (e := e') (w' := w') (xs := xs) (ys := ys) (zs := zs) (vs := vs) (r := r) (t := t) (u := u) (v := v) (n := 43) (by unfold agG; rw [hce2]; simp) (by unfold agE; rw [if_neg (by simp [h1]), if_neg (by simp [h3]), if_neg (by simp [hce1]), hce2]) h)
          rw [hce2] at HC2
          unfold ruV at *
          generalize carL xs r (meetL xs zs) (r && u) ys t = ll at *
          generalize carR xs r (meetL xs zs) (r && u) ys t = lr at *
          generalize carL zs u (meetL xs zs) (r && u) vs v = rl at *
          generalize carR zs u (meetL xs zs) (r && u) vs v = rr at *
          generalize meetL xs zs = mm at *
          generalize hmr : (r && u) = mr at *
          clear hsx hsy hsz hsv hlx hlz h1 h3 hms hml HCE1 HCE2 h4 h5 hce1 hce2 hmr bx bY bz bv
          go_enter Tryd.func32, Tryd.ntmps32
          go_wp2_with (first
            | (go_at_call 49; refine (HCK.out _ (HI.go (by repeat (first | exact Below.refl _ _ | apply Below.drew | apply below_drewN | apply below_al))).out.2.2.1.1.1 (HI.go (by repeat (first | exact Below.refl _ _ | apply Below.drew | apply below_drewN | apply below_al))).out.2.2.1.1.2 (HI.go (by repeat (first | exact Below.refl _ _ | apply Below.drew | apply below_drewN | apply below_al))).out.2.2.1.2.1 (HI.go (by repeat (first | exact Below.refl _ _ | apply Below.drew | apply below_drewN | apply below_al))).out.2.2.1.2.2 (HI.go (by repeat (first | exact Below.refl _ _ | apply Below.drew | apply below_drewN | apply below_al))).out.2.2.2.1).mono ?_; rintro e w1 ⟨rfl, hb⟩; replace HI := HI.go2 (by repeat (first | exact Below.refl _ _ | apply Below.drew | apply below_drewN | apply below_al)) hb; clear hb; obtain ⟨⟨s0, s1, s2, s3, s4⟩, ⟨⟨p1, p2, p3, p4, p5, p6⟩, ⟨q1, q2, q3, q4, q5, q6⟩⟩, -⟩ := HI.out)
            | (go_at_call 44; refine (HME.out _ (HI.go (by repeat (first | exact Below.refl _ _ | apply Below.drew | apply below_drewN | apply below_al))).out.2.2.1.1.1 (HI.go (by repeat (first | exact Below.refl _ _ | apply Below.drew | apply below_drewN | apply below_al))).out.2.2.1.2.1).mono ?_; rintro e w3 ⟨M, n, rfl, hr, hb⟩; replace HI := HI.go2 (by repeat (first | exact Below.refl _ _ | apply Below.drew | apply below_drewN | apply below_al)) hb; clear hb; have HM := At.rb2 (q := mr) hr; have m1 := hr.1; have m2 := hr.2.1; clear hr; obtain ⟨⟨s0, s1, s2, s3, s4⟩, ⟨⟨p1, p2, p3, p4, p5, p6⟩, ⟨q1, q2, q3, q4, q5, q6⟩⟩, -⟩ := HI.out)
            | (go_at_call_of 45 (Value.agg #[.slice A xs.length c, .bool r]); refine (HC1.out _ _ _ (HI.go (by repeat (first | exact Below.refl _ _ | apply Below.drew | apply below_drewN | apply below_al))).out.2.2.1.1.1 (HM.go (by repeat (first | exact Below.refl _ _ | apply Below.drew | apply below_drewN | apply below_al))).out.2 (HI.go (by repeat (first | exact Below.refl _ _ | apply Below.drew | apply below_drewN | apply below_al))).out.2.2.1.1.2 (HI.go (by repeat (first | exact Below.refl _ _ | apply Below.drew | apply below_drewN | apply below_al))).out.2.2.2.1).mono ?_; rintro e w4 ⟨E, k, rfl, hr, hb⟩; replace HM := HM.go2 (by repeat (first | exact Below.refl _ _ | apply Below.drew | apply below_drewN | apply below_al)) hb; replace HI := HI.go2 (by repeat (first | exact Below.refl _ _ | apply Below.drew | apply below_drewN | apply below_al)) hb; clear hb; have HD := At.rb2 (q := lr) hr; have d1 := hr.1; have d2 := hr.2.1; clear hr; obtain ⟨⟨s0, s1, s2, s3, s4⟩, ⟨⟨p1, p2, p3, p4, p5, p6⟩, ⟨q1, q2, q3, q4, q5, q6⟩⟩, -⟩ := HI.out; obtain ⟨⟨m3, m4, m5, m6, m7⟩, -⟩ := HM.out)
            | (go_at_call_of 45 (Value.agg #[.slice C zs.length e, .bool u]); refine (HC2.out _ _ _ (HI.go (by repeat (first | exact Below.refl _ _ | apply Below.drew | apply below_drewN | apply below_al))).out.2.2.1.2.1 (HM.go (by repeat (first | exact Below.refl _ _ | apply Below.drew | apply below_drewN | apply below_al))).out.2 (HI.go (by repeat (first | exact Below.refl _ _ | apply Below.drew | apply below_drewN | apply below_al))).out.2.2.1.2.2 (HI.go (by repeat (first | exact Below.refl _ _ | apply Below.drew | apply below_drewN | apply below_al))).out.2.2.2.1).mono ?_; rintro e w5 ⟨G, l, rfl, hr, hb⟩; replace HM := HM.go2 (by repeat (first | exact Below.refl _ _ | apply Below.drew | apply below_drewN | apply below_al)) hb; replace HD := HD.go2 (by repeat (first | exact Below.refl _ _ | apply Below.drew | apply below_drewN | apply below_al)) hb; replace HI := HI.go2 (by repeat (first | exact Below.refl _ _ | apply Below.drew | apply below_drewN | apply below_al)) hb; clear hb; have HG := At.rb2 (q := rr) hr; have g1 := hr.1; have g2 := hr.2.1; clear hr; obtain ⟨⟨s0, s1, s2, s3, s4⟩, ⟨⟨p1, p2, p3, p4, p5, p6⟩, ⟨q1, q2, q3, q4, q5, q6⟩⟩, -⟩ := HI.out; obtain ⟨⟨d3, d4, d5, d6, d7⟩, -⟩ := HD.out; obtain ⟨⟨m3, m4, m5, m6, m7⟩, -⟩ := HM.out)
            | (go_at_call 50; refine (HEQ.out _ _ _ _ _ _ _ (HM.go (by repeat (first | exact Below.refl _ _ | apply Below.drew | apply below_drewN | apply below_al))).out.2 (HD.go (by repeat (first | exact Below.refl _ _ | apply Below.drew | apply below_drewN | apply below_al))).out.2 (HG.go (by repeat (first | exact Below.refl _ _ | apply Below.drew | apply below_drewN | apply below_al))).out.2 (HI.go (by repeat (first | exact Below.refl _ _ | apply Below.drew | apply below_drewN | apply below_al))).out.2.2.2.1).mono ?_; rintro e w6 ⟨F, i, rfl, hr, hb⟩; replace HM := HM.go2 (by repeat (first | exact Below.refl _ _ | apply Below.drew | apply below_drewN | apply below_al)) hb; replace HI := HI.go2 (by repeat (first | exact Below.refl _ _ | apply Below.drew | apply below_drewN | apply below_al)) hb; clear hb; have HR := Lib.hid hr; have i1 := hr.1; have i2 := hr.2.1; clear hr; obtain ⟨⟨s0, s1, s2, s3, s4⟩, ⟨⟨p1, p2, p3, p4, p5, p6⟩, ⟨q1, q2, q3, q4, q5, q6⟩⟩, -⟩ := HI.out; obtain ⟨⟨m3, m4, m5, m6, m7⟩, -⟩ := HM.out))
          refine bodyPost_ret (v := .tuple #[.agg #[.slice none 0 0, .bool false], .bool false, .int .i64 43]) (by simp [results, Tryd.results32, go_sem, s0, s1, s2, s3, s4]) rfl (HBAD.out _ _ ⟨none, 0, rfl, RT.nil _ _ _ (by omega), ?_⟩)
          exact below_al (below_box HI.out.2.2.2.2 (by omega) _ _) _
      · have hce1 : carE xs r (meetL xs zs) (r && u) ys t = 43 := by rw [HCE1.out, if_neg h4]
        have HBAD := Lib.hid (fun e' w' h => ag_bad (w := w) (e := e') (w' := w') (xs := xs) (ys := ys) (zs := zs) (vs := vs) (r := r) (t := t) (u := u) (v := v) (n := 43) (by unfold agG; rw [hce1]; simp) (by unfold agE; rw [if_neg (by simp [h1]), if_neg (by simp [h3]), if_pos (by rw [hce1]; decide)]) h)
        rw [hce1] at HC1
        unfold ruV at *
        generalize carL xs r (meetL xs zs) (r && u) ys t = ll at *
        generalize carR xs r (meetL xs zs) (r && u) ys t = lr at *
        generalize meetL xs zs = mm at *
        generalize hmr : (r && u) = mr at *
        clear hsx hsy hsz hsv hlx hlz h1 h3 hms hml HCE1 HCE2 h4 hce1 hmr HC2 bx bY bz bv
        go_enter Tryd.func32, Tryd.ntmps32
        go_wp2_with (first
          | (go_at_call 49; refine (HCK.out _ (HI.go (by repeat (first | exact Below.refl _ _ | apply Below.drew | apply below_drewN | apply below_al))).out.2.2.1.1.1 (HI.go (by repeat (first | exact Below.refl _ _ | apply Below.drew | apply below_drewN | apply below_al))).out.2.2.1.1.2 (HI.go (by repeat (first | exact Below.refl _ _ | apply Below.drew | apply below_drewN | apply below_al))).out.2.2.1.2.1 (HI.go (by repeat (first | exact Below.refl _ _ | apply Below.drew | apply below_drewN | apply below_al))).out.2.2.1.2.2 (HI.go (by repeat (first | exact Below.refl _ _ | apply Below.drew | apply below_drewN | apply below_al))).out.2.2.2.1).mono ?_; rintro e w1 ⟨rfl, hb⟩; replace HI := HI.go2 (by repeat (first | exact Below.refl _ _ | apply Below.drew | apply below_drewN | apply below_al)) hb; clear hb; obtain ⟨⟨s0, s1, s2, s3, s4⟩, ⟨⟨p1, p2, p3, p4, p5, p6⟩, ⟨q1, q2, q3, q4, q5, q6⟩⟩, -⟩ := HI.out)
          | (go_at_call 44; refine (HME.out _ (HI.go (by repeat (first | exact Below.refl _ _ | apply Below.drew | apply below_drewN | apply below_al))).out.2.2.1.1.1 (HI.go (by repeat (first | exact Below.refl _ _ | apply Below.drew | apply below_drewN | apply below_al))).out.2.2.1.2.1).mono ?_; rintro e w3 ⟨M, n, rfl, hr, hb⟩; replace HI := HI.go2 (by repeat (first | exact Below.refl _ _ | apply Below.drew | apply below_drewN | apply below_al)) hb; clear hb; have HM := At.rb2 (q := mr) hr; have m1 := hr.1; have m2 := hr.2.1; clear hr; obtain ⟨⟨s0, s1, s2, s3, s4⟩, ⟨⟨p1, p2, p3, p4, p5, p6⟩, ⟨q1, q2, q3, q4, q5, q6⟩⟩, -⟩ := HI.out)
          | (go_at_call_of 45 (Value.agg #[.slice A xs.length c, .bool r]); refine (HC1.out _ _ _ (HI.go (by repeat (first | exact Below.refl _ _ | apply Below.drew | apply below_drewN | apply below_al))).out.2.2.1.1.1 (HM.go (by repeat (first | exact Below.refl _ _ | apply Below.drew | apply below_drewN | apply below_al))).out.2 (HI.go (by repeat (first | exact Below.refl _ _ | apply Below.drew | apply below_drewN | apply below_al))).out.2.2.1.1.2 (HI.go (by repeat (first | exact Below.refl _ _ | apply Below.drew | apply below_drewN | apply below_al))).out.2.2.2.1).mono ?_; rintro e w4 ⟨E, k, rfl, hr, hb⟩; replace HM := HM.go2 (by repeat (first | exact Below.refl _ _ | apply Below.drew | apply below_drewN | apply below_al)) hb; replace HI := HI.go2 (by repeat (first | exact Below.refl _ _ | apply Below.drew | apply below_drewN | apply below_al)) hb; clear hb; have HD := At.rb2 (q := lr) hr; have d1 := hr.1; have d2 := hr.2.1; clear hr; obtain ⟨⟨s0, s1, s2, s3, s4⟩, ⟨⟨p1, p2, p3, p4, p5, p6⟩, ⟨q1, q2, q3, q4, q5, q6⟩⟩, -⟩ := HI.out; obtain ⟨⟨m3, m4, m5, m6, m7⟩, -⟩ := HM.out)
          | (go_at_call_of 45 (Value.agg #[.slice C zs.length e, .bool u]); refine (HC2.out _ _ _ (HI.go (by repeat (first | exact Below.refl _ _ | apply Below.drew | apply below_drewN | apply below_al))).out.2.2.1.2.1 (HM.go (by repeat (first | exact Below.refl _ _ | apply Below.drew | apply below_drewN | apply below_al))).out.2 (HI.go (by repeat (first | exact Below.refl _ _ | apply Below.drew | apply below_drewN | apply below_al))).out.2.2.1.2.2 (HI.go (by repeat (first | exact Below.refl _ _ | apply Below.drew | apply below_drewN | apply below_al))).out.2.2.2.1).mono ?_; rintro e w5 ⟨G, l, rfl, hr, hb⟩; replace HM := HM.go2 (by repeat (first | exact Below.refl _ _ | apply Below.drew | apply below_drewN | apply below_al)) hb; replace HD := HD.go2 (by repeat (first | exact Below.refl _ _ | apply Below.drew | apply below_drewN | apply below_al)) hb; replace HI := HI.go2 (by repeat (first | exact Below.refl _ _ | apply Below.drew | apply below_drewN | apply below_al)) hb; clear hb; have HG := At.rb2 (q := rr) hr; have g1 := hr.1; have g2 := hr.2.1; clear hr; obtain ⟨⟨s0, s1, s2, s3, s4⟩, ⟨⟨p1, p2, p3, p4, p5, p6⟩, ⟨q1, q2, q3, q4, q5, q6⟩⟩, -⟩ := HI.out; obtain ⟨⟨d3, d4, d5, d6, d7⟩, -⟩ := HD.out; obtain ⟨⟨m3, m4, m5, m6, m7⟩, -⟩ := HM.out)
          | (go_at_call 50; refine (HEQ.out _ _ _ _ _ _ _ (HM.go (by repeat (first | exact Below.refl _ _ | apply Below.drew | apply below_drewN | apply below_al))).out.2 (HD.go (by repeat (first | exact Below.refl _ _ | apply Below.drew | apply below_drewN | apply below_al))).out.2 (HG.go (by repeat (first | exact Below.refl _ _ | apply Below.drew | apply below_drewN | apply below_al))).out.2 (HI.go (by repeat (first | exact Below.refl _ _ | apply Below.drew | apply below_drewN | apply below_al))).out.2.2.2.1).mono ?_; rintro e w6 ⟨F, i, rfl, hr, hb⟩; replace HM := HM.go2 (by repeat (first | exact Below.refl _ _ | apply Below.drew | apply below_drewN | apply below_al)) hb; replace HI := HI.go2 (by repeat (first | exact Below.refl _ _ | apply Below.drew | apply below_drewN | apply below_al)) hb; clear hb; have HR := Lib.hid hr; have i1 := hr.1; have i2 := hr.2.1; clear hr; obtain ⟨⟨s0, s1, s2, s3, s4⟩, ⟨⟨p1, p2, p3, p4, p5, p6⟩, ⟨q1, q2, q3, q4, q5, q6⟩⟩, -⟩ := HI.out; obtain ⟨⟨m3, m4, m5, m6, m7⟩, -⟩ := HM.out))
        refine bodyPost_ret (v := .tuple #[.agg #[.slice none 0 0, .bool false], .bool false, .int .i64 43]) (by simp [results, Tryd.results32, go_sem, s0, s1, s2, s3, s4]) rfl (HBAD.out _ _ ⟨none, 0, rfl, RT.nil _ _ _ (by omega), ?_⟩)
        exact below_al (below_box HI.out.2.2.2.2 (by omega) _ _) _
  · have HBAD := Lib.hid (fun e' w' h => ag_bad (w := w) (e := e') (w' := w') (xs := xs) (ys := ys) (zs := zs) (vs := vs) (r := r) (t := t) (u := u) (v := v) (n := chkE xs r ys t zs u vs v) (by unfold agG; rw [beq_eq_false_iff_ne.2 h1]; simp) (by unfold agE; rw [if_pos h1]) h)
    have hnB : (chkE xs r ys t zs u vs v != 0) = true := by rw [bne_iff_ne]; exact h1
    unfold ruV at *
    clear hsx hsy hsz hsv hlx hlz h1 HME bx bY bz bv
    generalize chkE xs r ys t zs u vs v = nn at *
    go_enter Tryd.func32, Tryd.ntmps32
    go_wp2_with (first
      | (go_at_call 49; refine (HCK.out _ (HI.go (by repeat (first | exact Below.refl _ _ | apply Below.drew | apply below_drewN | apply below_al))).out.2.2.1.1.1 (HI.go (by repeat (first | exact Below.refl _ _ | apply Below.drew | apply below_drewN | apply below_al))).out.2.2.1.1.2 (HI.go (by repeat (first | exact Below.refl _ _ | apply Below.drew | apply below_drewN | apply below_al))).out.2.2.1.2.1 (HI.go (by repeat (first | exact Below.refl _ _ | apply Below.drew | apply below_drewN | apply below_al))).out.2.2.1.2.2 (HI.go (by repeat (first | exact Below.refl _ _ | apply Below.drew | apply below_drewN | apply below_al))).out.2.2.2.1).mono ?_; rintro e w1 ⟨rfl, hb⟩; replace HI := HI.go2 (by repeat (first | exact Below.refl _ _ | apply Below.drew | apply below_drewN | apply below_al)) hb; clear hb; obtain ⟨⟨s0, s1, s2, s3, s4⟩, ⟨⟨p1, p2, p3, p4, p5, p6⟩, ⟨q1, q2, q3, q4, q5, q6⟩⟩, -⟩ := HI.out)
      | (go_at_call 44; refine (HME.out _ (HI.go (by repeat (first | exact Below.refl _ _ | apply Below.drew | apply below_drewN | apply below_al))).out.2.2.1.1.1 (HI.go (by repeat (first | exact Below.refl _ _ | apply Below.drew | apply below_drewN | apply below_al))).out.2.2.1.2.1).mono ?_; rintro e w3 ⟨M, n, rfl, hr, hb⟩; replace HI := HI.go2 (by repeat (first | exact Below.refl _ _ | apply Below.drew | apply below_drewN | apply below_al)) hb; clear hb; have HM := At.rb2 (q := mr) hr; have m1 := hr.1; have m2 := hr.2.1; clear hr; obtain ⟨⟨s0, s1, s2, s3, s4⟩, ⟨⟨p1, p2, p3, p4, p5, p6⟩, ⟨q1, q2, q3, q4, q5, q6⟩⟩, -⟩ := HI.out)
      | (go_at_call_of 45 (Value.agg #[.slice A xs.length c, .bool r]); refine (HC1.out _ _ _ (HI.go (by repeat (first | exact Below.refl _ _ | apply Below.drew | apply below_drewN | apply below_al))).out.2.2.1.1.1 (HM.go (by repeat (first | exact Below.refl _ _ | apply Below.drew | apply below_drewN | apply below_al))).out.2 (HI.go (by repeat (first | exact Below.refl _ _ | apply Below.drew | apply below_drewN | apply below_al))).out.2.2.1.1.2 (HI.go (by repeat (first | exact Below.refl _ _ | apply Below.drew | apply below_drewN | apply below_al))).out.2.2.2.1).mono ?_; rintro e w4 ⟨E, k, rfl, hr, hb⟩; replace HM := HM.go2 (by repeat (first | exact Below.refl _ _ | apply Below.drew | apply below_drewN | apply below_al)) hb; replace HI := HI.go2 (by repeat (first | exact Below.refl _ _ | apply Below.drew | apply below_drewN | apply below_al)) hb; clear hb; have HD := At.rb2 (q := lr) hr; have d1 := hr.1; have d2 := hr.2.1; clear hr; obtain ⟨⟨s0, s1, s2, s3, s4⟩, ⟨⟨p1, p2, p3, p4, p5, p6⟩, ⟨q1, q2, q3, q4, q5, q6⟩⟩, -⟩ := HI.out; obtain ⟨⟨m3, m4, m5, m6, m7⟩, -⟩ := HM.out)
      | (go_at_call_of 45 (Value.agg #[.slice C zs.length e, .bool u]); refine (HC2.out _ _ _ (HI.go (by repeat (first | exact Below.refl _ _ | apply Below.drew | apply below_drewN | apply below_al))).out.2.2.1.2.1 (HM.go (by repeat (first | exact Below.refl _ _ | apply Below.drew | apply below_drewN | apply below_al))).out.2 (HI.go (by repeat (first | exact Below.refl _ _ | apply Below.drew | apply below_drewN | apply below_al))).out.2.2.1.2.2 (HI.go (by repeat (first | exact Below.refl _ _ | apply Below.drew | apply below_drewN | apply below_al))).out.2.2.2.1).mono ?_; rintro e w5 ⟨G, l, rfl, hr, hb⟩; replace HM := HM.go2 (by repeat (first | exact Below.refl _ _ | apply Below.drew | apply below_drewN | apply below_al)) hb; replace HD := HD.go2 (by repeat (first | exact Below.refl _ _ | apply Below.drew | apply below_drewN | apply below_al)) hb; replace HI := HI.go2 (by repeat (first | exact Below.refl _ _ | apply Below.drew | apply below_drewN | apply below_al)) hb; clear hb; have HG := At.rb2 (q := rr) hr; have g1 := hr.1; have g2 := hr.2.1; clear hr; obtain ⟨⟨s0, s1, s2, s3, s4⟩, ⟨⟨p1, p2, p3, p4, p5, p6⟩, ⟨q1, q2, q3, q4, q5, q6⟩⟩, -⟩ := HI.out; obtain ⟨⟨d3, d4, d5, d6, d7⟩, -⟩ := HD.out; obtain ⟨⟨m3, m4, m5, m6, m7⟩, -⟩ := HM.out)
      | (go_at_call 50; refine (HEQ.out _ _ _ _ _ _ _ (HM.go (by repeat (first | exact Below.refl _ _ | apply Below.drew | apply below_drewN | apply below_al))).out.2 (HD.go (by repeat (first | exact Below.refl _ _ | apply Below.drew | apply below_drewN | apply below_al))).out.2 (HG.go (by repeat (first | exact Below.refl _ _ | apply Below.drew | apply below_drewN | apply below_al))).out.2 (HI.go (by repeat (first | exact Below.refl _ _ | apply Below.drew | apply below_drewN | apply below_al))).out.2.2.2.1).mono ?_; rintro e w6 ⟨F, i, rfl, hr, hb⟩; replace HM := HM.go2 (by repeat (first | exact Below.refl _ _ | apply Below.drew | apply below_drewN | apply below_al)) hb; replace HI := HI.go2 (by repeat (first | exact Below.refl _ _ | apply Below.drew | apply below_drewN | apply below_al)) hb; clear hb; have HR := Lib.hid hr; have i1 := hr.1; have i2 := hr.2.1; clear hr; obtain ⟨⟨s0, s1, s2, s3, s4⟩, ⟨⟨p1, p2, p3, p4, p5, p6⟩, ⟨q1, q2, q3, q4, q5, q6⟩⟩, -⟩ := HI.out; obtain ⟨⟨m3, m4, m5, m6, m7⟩, -⟩ := HM.out))
    refine bodyPost_ret (v := .tuple #[.agg #[.slice none 0 0, .bool false], .bool false, .int .i64 nn]) (by simp [results, Tryd.results32, go_sem, s0, s1, s2, s3, s4]) rfl (HBAD.out _ _ ⟨none, 0, rfl, RT.nil _ _ _ (by omega), ?_⟩)
    exact below_box HI.out.2.2.2.2 (by omega) _ _
end Go.Proofs.YtidjmbmnfnnleaaDoor

/-
  Rules: the reference's comparison of two patterns that are one; the sizes of Agree's answer.
-/
namespace Go.Proofs.YtidjmbmnfnnleaaDoor
set_option linter.unusedSimpArgs false
set_option linter.unusedVariables false
open Go.RowKit
open Pm

theorem psame_self (A B : Option Addr) (c d : Nat) (xs : List ByteArray) (r : Bool) (w : World) (h : RT w A c xs) (k : RT w B d xs) :
    Calls Tryd.prog 34 #[.agg #[.slice A xs.length c, .bool r], .agg #[.slice B xs.length d, .bool r]] w fun e w' => e = .returned (.bool true) ∧ Below w.heap.size w w' := by
  have := psame_any A B c d xs xs r r w h k
  rw [show sameB xs xs r r = true by unfold sameB; simp] at this
  exact this
/-- the sizes of what Agree answers -/
theorem eqz_size {B : Nat} : ∀ (n : Nat) (l f s : List ByteArray), ES l f s → SZ B l f s → ∀ x ∈ (eqz n l f s).1, x.size ≤ B + B
  | 0, l, f, s, _, _ => by intro x hx; cases hx
  | n + 1, l, f, s, hE, hZ => by
    cases hs : stp f s with
    | none => rw [eqz_end hs]; exact hZ.le.1
    | some p =>
      obtain ⟨k, x, y⟩ := p
      cases hd : detO x y with
      | false => rw [eqz_bad hs hd]; intro x hx; cases hx
      | true =>
        obtain ⟨hcc, hk, _⟩ := hE.lt hs hd
        rw [eqz_step hs hd]
        exact eqz_size n _ _ _ (hE.fix hcc hk).1 (hZ.fix hE hs hd).1
theorem agZ_size {xs ys zs vs : List ByteArray} {r t u v : Bool} (bx : sumB xs ≤ 300) (bY : sumB ys ≤ 300) (bz : sumB zs ≤ 300) (bv : sumB vs ≤ 300) : ∀ x ∈ (agZ xs r ys t zs u vs v).1, x.size ≤ 5000 := by
  unfold agZ
  by_cases hg : agG xs r ys t zs u vs v = true
  · rw [if_pos hg]
    unfold eqT
    split
    · rename_i hl
      intro x hx
      have := eqz_size _ _ _ _ ((ag_start hg).es hl) (ag_size hg bx bY bz bv) x hx
      omega
    · intro x hx; cases hx
  · rw [if_neg hg]
    intro x hx; cases hx
set_option maxHeartbeats 1000000 in
theorem has2_any (A : Option Addr) (c : Nat) (xs : List ByteArray) (r : Bool) (s : ByteArray) (w : World) (h : RT w A c xs) (hm : ML w) (hsx : ∀ x ∈ xs, x.size ≤ 5000) (hs : s.size ≤ 5000) :
    Calls Tryd.prog 27 #[.agg #[.slice A xs.length c, .bool r], .string s] w fun e w' => e = .returned (.bool (matchOk mpOk xs r s)) ∧ Below w.heap.size w w' := by
  have HM : At (fun w => ML w) (w.alloc (.cells #[.slice A xs.length c, .bool r] 24)) := ⟨kept_ml, hm.below (below_alloc _ _)⟩
  have HI := P1.enter h hm r 24
  have HMA := Lib.hid (fun w h m => (rmatch_any A c xs r s w h (five9 hsx) hs m).mono fun _ _ h => mx_two h)
  have hx1 := h.1
  have hx2 := h.2.1
  generalize mxB xs r s = cs at *
  generalize matchOk mpOk xs r s = ok at *
  clear h hm hsx hs HM
  go_enter Tryd.func27, Tryd.ntmps27
  go_wp2_with (go_at_call 36; refine (HMA.out _ (P1.x (HI.go (by repeat (first | exact Below.refl _ _ | apply Below.drew | apply below_drewN | apply below_al)))) (P1.m (HI.go (by repeat (first | exact Below.refl _ _ | apply Below.drew | apply below_drewN | apply below_al))))).mono ?_; rintro e w3 ⟨D, m, rfl, hr, hb⟩; replace HI := HI.go2 (by repeat (first | exact Below.refl _ _ | apply Below.drew | apply below_drewN | apply below_al)) hb; clear hb; clear hr)
  go_ret
  exact ⟨rfl, P1.b (HI.go (by repeat (first | exact Below.refl _ _ | apply Below.drew | apply below_drewN | apply below_al)))⟩
end Go.Proofs.YtidjmbmnfnnleaaDoor

/-
  RuleAgrees returns true.
-/
namespace Go.Proofs.YtidjmbmnfnnleaaDoor
set_option linter.unusedSimpArgs false
set_option linter.unusedVariables false
open Go.RowKit
open Pm

theorem small4_sum {xs : List ByteArray} (h : small4B xs = true) : sumB xs ≤ 300 := by
  unfold small4B at h
  rw [Bool.and_eq_true, decide_eq_true_eq, decide_eq_true_eq] at h
  exact h.2
set_option maxHeartbeats 16000000 in
theorem ruleAgrees_any (ex : Bool) (A : Option Addr) (c : Nat) (xs : List ByteArray) (r : Bool) (B : Option Addr) (d : Nat) (ys : List ByteArray) (t : Bool) (fx : Bool) (C : Option Addr) (e : Nat) (zs : List ByteArray) (u : Bool) (D : Option Addr) (f : Nat) (vs : List ByteArray) (v : Bool) (W : World)
    (h : RT W A c xs) (hz : ∀ x ∈ xs, x.size ≤ maxLen) (hg : ∀ x ∈ xs, x.size ≤ reachBytes) (k : RT W B d ys) (kz : ∀ x ∈ ys, x.size ≤ maxLen) (kg : ∀ x ∈ ys, x.size ≤ reachBytes)
    (h' : RT W C e zs) (hz' : ∀ x ∈ zs, x.size ≤ maxLen) (hg' : ∀ x ∈ zs, x.size ≤ reachBytes) (k' : RT W D f vs) (kz' : ∀ x ∈ vs, x.size ≤ maxLen) (kg' : ∀ x ∈ vs, x.size ≤ reachBytes) (hsh : W.ShapedOpen Tryd.prog) :
    Calls Tryd.prog 12 #[ruV ex A c xs r B d ys t, ruV fx C e zs u D f vs v] W fun e w' => e = .returned (.bool true) ∧ Below W.heap.size W w' := by
  unfold maxLen at hz kz hz' kz'
  have HI := PRT.enter h k h' k' (ML.of hsh) ex r t fx u v 26
  have HFA := Lib.hid (fun w h k m => fit_any ex A B c d xs ys r t w h k m hg kg)
  have HFB := Lib.hid (fun w h k m => fit_any fx C D e f zs vs u v w h k m hg' kg')
  have hx1 := h.1
  have hx2 := h.2.1
  have hy1 := k.1
  have hy2 := k.2.1
  have hz1 := h'.1
  have hz2 := h'.2.1
  have hv1 := k'.1
  have hv2 := k'.2.1
  cases hf : fitB xs ys with
  | false =>
    rw [hf] at HFA
    unfold ruV at *
    clear hsh h hz hg k kz kg h' hz' hg' k' kz' kg' hf
    go_enter Tryd.func12, Tryd.ntmps12
    go_wp2_with (first
      | (go_at_call_of 14 (Value.agg #[.bool ex, .slice A xs.length c, .bool r, .slice B ys.length d, .bool t]); refine (HFA.out _ (HI.go (by repeat (first | exact Below.refl _ _ | apply Below.drew | apply below_drewN | apply below_al))).out.2.1.1.1 (HI.go (by repeat (first | exact Below.refl _ _ | apply Below.drew | apply below_drewN | apply below_al))).out.2.1.1.2 (HI.go (by repeat (first | exact Below.refl _ _ | apply Below.drew | apply below_drewN | apply below_al))).out.2.2.1).mono ?_; rintro e w1 ⟨rfl, hb⟩; replace HI := HI.go2 (by repeat (first | exact Below.refl _ _ | apply Below.drew | apply below_drewN | apply below_al)) hb; clear hb; obtain ⟨⟨p1, p2, p3, p4, p5, p6⟩, ⟨q1, q2, q3, q4, q5, q6⟩⟩ := HI.out.1)
      | (go_at_call_of 14 (Value.agg #[.bool fx, .slice C zs.length e, .bool u, .slice D vs.length f, .bool v]); refine (HFB.out _ (HI.go (by repeat (first | exact Below.refl _ _ | apply Below.drew | apply below_drewN | apply below_al))).out.2.1.2.1 (HI.go (by repeat (first | exact Below.refl _ _ | apply Below.drew | apply below_drewN | apply below_al))).out.2.1.2.2 (HI.go (by repeat (first | exact Below.refl _ _ | apply Below.drew | apply below_drewN | apply below_al))).out.2.2.1).mono ?_; rintro e w2 ⟨rfl, hb⟩; replace HI := HI.go2 (by repeat (first | exact Below.refl _ _ | apply Below.drew | apply below_drewN | apply below_al)) hb; clear hb; obtain ⟨⟨p1, p2, p3, p4, p5, p6⟩, ⟨q1, q2, q3, q4, q5, q6⟩⟩ := HI.out.1)
      | (go_at_call 15; refine (rawake_any _ (HI.go (by repeat (first | exact Below.refl _ _ | apply Below.drew | apply below_drewN | apply below_al))).out.2.2.1).mono ?_; rintro e w9 ⟨rfl, hb⟩; replace HI := HI.go2 (by repeat (first | exact Below.refl _ _ | apply Below.drew | apply below_drewN | apply below_al)) hb; clear hb))
    go_ret
    exact ⟨rfl, (HI.go (by repeat (first | exact Below.refl _ _ | apply Below.drew | apply below_drewN | apply below_al))).out.2.2.2⟩
  | true =>
    rw [hf] at HFA
    cases hf' : fitB zs vs with
    | false =>
      rw [hf'] at HFB
      unfold ruV at *
      clear hsh h hz hg k kz kg h' hz' hg' k' kz' kg' hf hf'
      go_enter Tryd.func12, Tryd.ntmps12
      go_wp2_with (first
        | (go_at_call_of 14 (Value.agg #[.bool ex, .slice A xs.length c, .bool r, .slice B ys.length d, .bool t]); refine (HFA.out _ (HI.go (by repeat (first | exact Below.refl _ _ | apply Below.drew | apply below_drewN | apply below_al))).out.2.1.1.1 (HI.go (by repeat (first | exact Below.refl _ _ | apply Below.drew | apply below_drewN | apply below_al))).out.2.1.1.2 (HI.go (by repeat (first | exact Below.refl _ _ | apply Below.drew | apply below_drewN | apply below_al))).out.2.2.1).mono ?_; rintro e w1 ⟨rfl, hb⟩; replace HI := HI.go2 (by repeat (first | exact Below.refl _ _ | apply Below.drew | apply below_drewN | apply below_al)) hb; clear hb; obtain ⟨⟨p1, p2, p3, p4, p5, p6⟩, ⟨q1, q2, q3, q4, q5, q6⟩⟩ := HI.out.1)
        | (go_at_call_of 14 (Value.agg #[.bool fx, .slice C zs.length e, .bool u, .slice D vs.length f, .bool v]); refine (HFB.out _ (HI.go (by repeat (first | exact Below.refl _ _ | apply Below.drew | apply below_drewN | apply below_al))).out.2.1.2.1 (HI.go (by repeat (first | exact Below.refl _ _ | apply Below.drew | apply below_drewN | apply below_al))).out.2.1.2.2 (HI.go (by repeat (first | exact Below.refl _ _ | apply Below.drew | apply below_drewN | apply below_al))).out.2.2.1).mono ?_; rintro e w2 ⟨rfl, hb⟩; replace HI := HI.go2 (by repeat (first | exact Below.refl _ _ | apply Below.drew | apply below_drewN | apply below_al)) hb; clear hb; obtain ⟨⟨p1, p2, p3, p4, p5, p6⟩, ⟨q1, q2, q3, q4, q5, q6⟩⟩ := HI.out.1)
        | (go_at_call 15; refine (rawake_any _ (HI.go (by repeat (first | exact Below.refl _ _ | apply Below.drew | apply below_drewN | apply below_al))).out.2.2.1).mono ?_; rintro e w9 ⟨rfl, hb⟩; replace HI := HI.go2 (by repeat (first | exact Below.refl _ _ | apply Below.drew | apply below_drewN | apply below_al)) hb; clear hb))
      go_ret
      exact ⟨rfl, (HI.go (by repeat (first | exact Below.refl _ _ | apply Below.drew | apply below_drewN | apply below_al))).out.2.2.2⟩
    | true =>
      rw [hf'] at HFB
      have fa := hf
      have fb := hf'
      unfold fitB at fa fb
      rw [Bool.and_eq_true] at fa fb
      have hlx := (small4_yes fa.1).1
      have hlz := (small4_yes fb.1).1
      have HAG := Lib.hid (fun w h k h' k' m => agree_any ex A c xs r B d ys t fx C e zs u D f vs v w h k h' k' m (small4_sum fa.1) (small4_sum fa.2) (small4_sum fb.1) (small4_sum fb.2) (by omega) (by omega))
      have HRA := Lib.hid (fun w h k h' k' m => ragree_any ex A c xs r B d ys t fx C e zs u D f vs v w h k h' k' m (small4_sum fa.1) (small4_sum fa.2) (small4_sum fb.1) (small4_sum fb.2) (by omega) (by omega))
      have HSM := Lib.hid (fun L q A' B' c' d' w h k => psame_self A' B' c' d' L q w h k)
      unfold RetAg RetA at HAG HRA
      unfold ruV at *
      generalize ((agZ xs r ys t zs u vs v).2 && (r && u)) = q at *
      generalize (agZ xs r ys t zs u vs v).2 = ok at *
      generalize (agZ xs r ys t zs u vs v).1 = L at *
      generalize agE xs r ys t zs u vs v = ne at *
      have hnn : (ne == ne) = true := by simp
      have hkk : (ok == ok) = true := by simp
      clear hsh h hz hg k kz kg h' hz' hg' k' kz' kg' hf hf' hlx hlz fa fb
      go_enter Tryd.func12, Tryd.ntmps12
      go_wp2_with (first
        | (go_at_call 32; refine (HAG.out _ (HI.go (by repeat (first | exact Below.refl _ _ | apply Below.drew | apply below_drewN | apply below_al))).out.2.1.1.1 (HI.go (by repeat (first | exact Below.refl _ _ | apply Below.drew | apply below_drewN | apply below_al))).out.2.1.1.2 (HI.go (by repeat (first | exact Below.refl _ _ | apply Below.drew | apply below_drewN | apply below_al))).out.2.1.2.1 (HI.go (by repeat (first | exact Below.refl _ _ | apply Below.drew | apply below_drewN | apply below_al))).out.2.1.2.2 (HI.go (by repeat (first | exact Below.refl _ _ | apply Below.drew | apply below_drewN | apply below_al))).out.2.2.1).mono ?_; rintro e w3 ⟨E, m, rfl, hr, hb⟩; replace HI := HI.go2 (by repeat (first | exact Below.refl _ _ | apply Below.drew | apply below_drewN | apply below_al)) hb; clear hb; have HD := At.rb2 (q := q) hr; have d1 := hr.1; have d2 := hr.2.1; clear hr; obtain ⟨⟨p1, p2, p3, p4, p5, p6⟩, ⟨q1, q2, q3, q4, q5, q6⟩⟩ := HI.out.1)
        | (go_at_call 33; refine (HRA.out _ (HI.go (by repeat (first | exact Below.refl _ _ | apply Below.drew | apply below_drewN | apply below_al))).out.2.1.1.1 (HI.go (by repeat (first | exact Below.refl _ _ | apply Below.drew | apply below_drewN | apply below_al))).out.2.1.1.2 (HI.go (by repeat (first | exact Below.refl _ _ | apply Below.drew | apply below_drewN | apply below_al))).out.2.1.2.1 (HI.go (by repeat (first | exact Below.refl _ _ | apply Below.drew | apply below_drewN | apply below_al))).out.2.1.2.2 (HI.go (by repeat (first | exact Below.refl _ _ | apply Below.drew | apply below_drewN | apply below_al))).out.2.2.1).mono ?_; rintro e w4 ⟨F, i, rfl, hr, hb⟩; replace HD := HD.go2 (by repeat (first | exact Below.refl _ _ | apply Below.drew | apply below_drewN | apply below_al)) hb; replace HI := HI.go2 (by repeat (first | exact Below.refl _ _ | apply Below.drew | apply below_drewN | apply below_al)) hb; clear hb; have HF := At.rb2 (q := q) hr; have e1 := hr.1; have e2 := hr.2.1; clear hr; obtain ⟨⟨p1, p2, p3, p4, p5, p6⟩, ⟨q1, q2, q3, q4, q5, q6⟩⟩ := HI.out.1; obtain ⟨⟨s1, s2, s3, s4, s5⟩, -⟩ := HD.out)
        | (go_at_call 34; refine (HSM.out _ _ _ _ _ _ _ (HD.go (by repeat (first | exact Below.refl _ _ | apply Below.drew | apply below_drewN | apply below_al))).out.2 (HF.go (by repeat (first | exact Below.refl _ _ | apply Below.drew | apply below_drewN | apply below_al))).out.2).mono ?_; rintro e w5 ⟨rfl, hb⟩; replace HI := HI.go2 (by repeat (first | exact Below.refl _ _ | apply Below.drew | apply below_drewN | apply below_al)) hb; clear hb)
        | (go_at_call_of 14 (Value.agg #[.bool ex, .slice A xs.length c, .bool r, .slice B ys.length d, .bool t]); refine (HFA.out _ (HI.go (by repeat (first | exact Below.refl _ _ | apply Below.drew | apply below_drewN | apply below_al))).out.2.1.1.1 (HI.go (by repeat (first | exact Below.refl _ _ | apply Below.drew | apply below_drewN | apply below_al))).out.2.1.1.2 (HI.go (by repeat (first | exact Below.refl _ _ | apply Below.drew | apply below_drewN | apply below_al))).out.2.2.1).mono ?_; rintro e w1 ⟨rfl, hb⟩; replace HI := HI.go2 (by repeat (first | exact Below.refl _ _ | apply Below.drew | apply below_drewN | apply below_al)) hb; clear hb; obtain ⟨⟨p1, p2, p3, p4, p5, p6⟩, ⟨q1, q2, q3, q4, q5, q6⟩⟩ := HI.out.1)
        | (go_at_call_of 14 (Value.agg #[.bool fx, .slice C zs.length e, .bool u, .slice D vs.length f, .bool v]); refine (HFB.out _ (HI.go (by repeat (first | exact Below.refl _ _ | apply Below.drew | apply below_drewN | apply below_al))).out.2.1.2.1 (HI.go (by repeat (first | exact Below.refl _ _ | apply Below.drew | apply below_drewN | apply below_al))).out.2.1.2.2 (HI.go (by repeat (first | exact Below.refl _ _ | apply Below.drew | apply below_drewN | apply below_al))).out.2.2.1).mono ?_; rintro e w2 ⟨rfl, hb⟩; replace HI := HI.go2 (by repeat (first | exact Below.refl _ _ | apply Below.drew | apply below_drewN | apply below_al)) hb; clear hb; obtain ⟨⟨p1, p2, p3, p4, p5, p6⟩, ⟨q1, q2, q3, q4, q5, q6⟩⟩ := HI.out.1)
        | (go_at_call 15; refine (rawake_any _ (HI.go (by repeat (first | exact Below.refl _ _ | apply Below.drew | apply below_drewN | apply below_al))).out.2.2.1).mono ?_; rintro e w9 ⟨rfl, hb⟩; replace HI := HI.go2 (by repeat (first | exact Below.refl _ _ | apply Below.drew | apply below_drewN | apply below_al)) hb; clear hb))
      go_ret
      exact ⟨rfl, (HI.go (by repeat (first | exact Below.refl _ _ | apply Below.drew | apply below_drewN | apply below_al))).out.2.2.2⟩
end Go.Proofs.YtidjmbmnfnnleaaDoor

/-
  RuleAgreeMeans returns true.
-/
namespace Go.Proofs.YtidjmbmnfnnleaaDoor
set_option linter.unusedSimpArgs false
set_option linter.unusedVariables false
open Go.RowKit
open Pm

set_option maxHeartbeats 16000000 in
theorem ruleAgreeMeans_any (ex : Bool) (A : Option Addr) (c : Nat) (xs : List ByteArray) (r : Bool) (B : Option Addr) (d : Nat) (ys : List ByteArray) (t : Bool) (fx : Bool) (C : Option Addr) (e : Nat) (zs : List ByteArray) (u : Bool) (D : Option Addr) (f : Nat) (vs : List ByteArray) (v : Bool) (s : ByteArray) (W : World)
    (h : RT W A c xs) (hz : ∀ x ∈ xs, x.size ≤ maxLen) (hg : ∀ x ∈ xs, x.size ≤ reachBytes) (k : RT W B d ys) (kz : ∀ x ∈ ys, x.size ≤ maxLen) (kg : ∀ x ∈ ys, x.size ≤ reachBytes)
    (h' : RT W C e zs) (hz' : ∀ x ∈ zs, x.size ≤ maxLen) (hg' : ∀ x ∈ zs, x.size ≤ reachBytes) (k' : RT W D f vs) (kz' : ∀ x ∈ vs, x.size ≤ maxLen) (kg' : ∀ x ∈ vs, x.size ≤ reachBytes) (hss : s.size ≤ maxLen) (hsh : W.ShapedOpen Tryd.prog) :
    Calls Tryd.prog 13 #[ruV ex A c xs r B d ys t, ruV fx C e zs u D f vs v, .string s] W fun e w' => e = .returned (.bool true) ∧ Below W.heap.size W w' := by
  unfold maxLen at hss
  unfold maxLen at hz kz hz' kz'
  have HI := PRT.enter h k h' k' (ML.of hsh) ex r t fx u v 26
  have HFA := Lib.hid (fun w h k m => fit_any ex A B c d xs ys r t w h k m hg kg)
  have HFB := Lib.hid (fun w h k m => fit_any fx C D e f zs vs u v w h k m hg' kg')
  have hx1 := h.1
  have hx2 := h.2.1
  have hy1 := k.1
  have hy2 := k.2.1
  have hz1 := h'.1
  have hz2 := h'.2.1
  have hv1 := k'.1
  have hv2 := k'.2.1
  cases hf : fitB xs ys with
  | false =>
    rw [hf] at HFA
    unfold ruV at *
    clear hsh h hz hg k kz kg h' hz' hg' k' kz' kg' hf
    go_enter Tryd.func13, Tryd.ntmps13
    go_wp2_with (first
      | (go_at_call_of 14 (Value.agg #[.bool ex, .slice A xs.length c, .bool r, .slice B ys.length d, .bool t]); refine (HFA.out _ (HI.go (by repeat (first | exact Below.refl _ _ | apply Below.drew | apply below_drewN | apply below_al))).out.2.1.1.1 (HI.go (by repeat (first | exact Below.refl _ _ | apply Below.drew | apply below_drewN | apply below_al))).out.2.1.1.2 (HI.go (by repeat (first | exact Below.refl _ _ | apply Below.drew | apply below_drewN | apply below_al))).out.2.2.1).mono ?_; rintro e w1 ⟨rfl, hb⟩; replace HI := HI.go2 (by repeat (first | exact Below.refl _ _ | apply Below.drew | apply below_drewN | apply below_al)) hb; clear hb; obtain ⟨⟨p1, p2, p3, p4, p5, p6⟩, ⟨q1, q2, q3, q4, q5, q6⟩⟩ := HI.out.1)
      | (go_at_call_of 14 (Value.agg #[.bool fx, .slice C zs.length e, .bool u, .slice D vs.length f, .bool v]); refine (HFB.out _ (HI.go (by repeat (first | exact Below.refl _ _ | apply Below.drew | apply below_drewN | apply below_al))).out.2.1.2.1 (HI.go (by repeat (first | exact Below.refl _ _ | apply Below.drew | apply below_drewN | apply below_al))).out.2.1.2.2 (HI.go (by repeat (first | exact Below.refl _ _ | apply Below.drew | apply below_drewN | apply below_al))).out.2.2.1).mono ?_; rintro e w2 ⟨rfl, hb⟩; replace HI := HI.go2 (by repeat (first | exact Below.refl _ _ | apply Below.drew | apply below_drewN | apply below_al)) hb; clear hb; obtain ⟨⟨p1, p2, p3, p4, p5, p6⟩, ⟨q1, q2, q3, q4, q5, q6⟩⟩ := HI.out.1)
      | (go_at_call 15; refine (rawake_any _ (HI.go (by repeat (first | exact Below.refl _ _ | apply Below.drew | apply below_drewN | apply below_al))).out.2.2.1).mono ?_; rintro e w9 ⟨rfl, hb⟩; replace HI := HI.go2 (by repeat (first | exact Below.refl _ _ | apply Below.drew | apply below_drewN | apply below_al)) hb; clear hb))
    go_ret
    exact ⟨rfl, (HI.go (by repeat (first | exact Below.refl _ _ | apply Below.drew | apply below_drewN | apply below_al))).out.2.2.2⟩
  | true =>
    rw [hf] at HFA
    cases hf' : fitB zs vs with
    | false =>
      rw [hf'] at HFB
      unfold ruV at *
      clear hsh h hz hg k kz kg h' hz' hg' k' kz' kg' hf hf'
      go_enter Tryd.func13, Tryd.ntmps13
      go_wp2_with (first
        | (go_at_call_of 14 (Value.agg #[.bool ex, .slice A xs.length c, .bool r, .slice B ys.length d, .bool t]); refine (HFA.out _ (HI.go (by repeat (first | exact Below.refl _ _ | apply Below.drew | apply below_drewN | apply below_al))).out.2.1.1.1 (HI.go (by repeat (first | exact Below.refl _ _ | apply Below.drew | apply below_drewN | apply below_al))).out.2.1.1.2 (HI.go (by repeat (first | exact Below.refl _ _ | apply Below.drew | apply below_drewN | apply below_al))).out.2.2.1).mono ?_; rintro e w1 ⟨rfl, hb⟩; replace HI := HI.go2 (by repeat (first | exact Below.refl _ _ | apply Below.drew | apply below_drewN | apply below_al)) hb; clear hb; obtain ⟨⟨p1, p2, p3, p4, p5, p6⟩, ⟨q1, q2, q3, q4, q5, q6⟩⟩ := HI.out.1)
        | (go_at_call_of 14 (Value.agg #[.bool fx, .slice C zs.length e, .bool u, .slice D vs.length f, .bool v]); refine (HFB.out _ (HI.go (by repeat (first | exact Below.refl _ _ | apply Below.drew | apply below_drewN | apply below_al))).out.2.1.2.1 (HI.go (by repeat (first | exact Below.refl _ _ | apply Below.drew | apply below_drewN | apply below_al))).out.2.1.2.2 (HI.go (by repeat (first | exact Below.refl _ _ | apply Below.drew | apply below_drewN | apply below_al))).out.2.2.1).mono ?_; rintro e w2 ⟨rfl, hb⟩; replace HI := HI.go2 (by repeat (first | exact Below.refl _ _ | apply Below.drew | apply below_drewN | apply below_al)) hb; clear hb; obtain ⟨⟨p1, p2, p3, p4, p5, p6⟩, ⟨q1, q2, q3, q4, q5, q6⟩⟩ := HI.out.1)
        | (go_at_call 15; refine (rawake_any _ (HI.go (by repeat (first | exact Below.refl _ _ | apply Below.drew | apply below_drewN | apply below_al))).out.2.2.1).mono ?_; rintro e w9 ⟨rfl, hb⟩; replace HI := HI.go2 (by repeat (first | exact Below.refl _ _ | apply Below.drew | apply below_drewN | apply below_al)) hb; clear hb))
      go_ret
      exact ⟨rfl, (HI.go (by repeat (first | exact Below.refl _ _ | apply Below.drew | apply below_drewN | apply below_al))).out.2.2.2⟩
    | true =>
      rw [hf'] at HFB
      by_cases h300 : s.size ≤ 300
      · have fa := hf
        have fb := hf'
        unfold fitB at fa fb
        rw [Bool.and_eq_true] at fa fb
        have hsx := (small4_yes fa.1).2
        have hsy := (small4_yes fa.2).2
        have hsz := (small4_yes fb.1).2
        have hsv := (small4_yes fb.2).2
        have hlx := (small4_yes fa.1).1
        have hlz := (small4_yes fb.1).1
        have HAG := Lib.hid (fun w h k h' k' m => agree_any ex A c xs r B d ys t fx C e zs u D f vs v w h k h' k' m (small4_sum fa.1) (small4_sum fa.2) (small4_sum fb.1) (small4_sum fb.2) (by omega) (by omega))
        have HF1 := Lib.hid (fun w h k m => forward_any ex A B c d xs ys r t s w h k m hsx hsy (by omega))
        have HF2 := Lib.hid (fun w h k m => forward_any fx C D e f zs vs u v s w h k m hsz hsv (by omega))
        have HHA := Lib.hid (fun E m w l hm => has2_any E m (agZ xs r ys t zs u vs v).1 ((agZ xs r ys t zs u vs v).2 && (r && u)) s w l hm (agZ_size (small4_sum fa.1) (small4_sum fa.2) (small4_sum fb.1) (small4_sum fb.2)) (by omega))
        have HMEA := Lib.hid (fun he => ag_means (xs := xs) (ys := ys) (zs := zs) (vs := vs) (r := r) (t := t) (u := u) (v := v) (p := s) he)
        have HQ : Hid ((agZ xs r ys t zs u vs v).2 = true → ((agZ xs r ys t zs u vs v).2 && (r && u)) = (r && u)) := Lib.hid (fun h => by rw [h]; rfl)
        unfold RetAg RetA at HAG
        unfold ruV at *
        have htt : ∀ x : ByteArray, (x.toList == x.toList) = true := fun x => by simp
        by_cases h0 : agE xs r ys t zs u vs v = 0
        · have hm := HMEA.out h0
          rw [h0] at HAG
          clear HMEA h0
          cases hok : (agZ xs r ys t zs u vs v).2 with
          | true =>
            rw [HQ.out hok] at HAG HHA
            rw [hok] at HAG hm
            clear HQ hok
            rw [Bool.true_and] at hm
            generalize (agZ xs r ys t zs u vs v).1 = L at *
            generalize (r && u) = q at *
            generalize matchOk mpOk L q s = mo at *
            generalize fwdO zs u vs v s = F2 at *
            generalize fwdT zs u vs v s = T2 at *
            generalize fwdO xs r ys t s = F1 at *
            generalize fwdT xs r ys t s = T1 at *
            clear hsh h hz hg k kz kg h' hz' hg' k' kz' kg' hf hf' hsx hsy hsz hsv hlx hlz fa fb
            cases F1 with
            | false =>
              rw [Bool.false_and] at hm
              subst hm
              clear htt
              go_enter Tryd.func13, Tryd.ntmps13
              go_wp2_with (first
                | (go_at_call 32; refine (HAG.out _ (HI.go (by repeat (first | exact Below.refl _ _ | apply Below.drew | apply below_drewN | apply below_al))).out.2.1.1.1 (HI.go (by repeat (first | exact Below.refl _ _ | apply Below.drew | apply below_drewN | apply below_al))).out.2.1.1.2 (HI.go (by repeat (first | exact Below.refl _ _ | apply Below.drew | apply below_drewN | apply below_al))).out.2.1.2.1 (HI.go (by repeat (first | exact Below.refl _ _ | apply Below.drew | apply below_drewN | apply below_al))).out.2.1.2.2 (HI.go (by repeat (first | exact Below.refl _ _ | apply Below.drew | apply below_drewN | apply below_al))).out.2.2.1).mono ?_; rintro e w3 ⟨E, m, rfl, hr, hb⟩; replace HI := HI.go2 (by repeat (first | exact Below.refl _ _ | apply Below.drew | apply below_drewN | apply below_al)) hb; clear hb; have HD := At.rb2 (q := q) hr; have d1 := hr.1; have d2 := hr.2.1; clear hr; obtain ⟨⟨p1, p2, p3, p4, p5, p6⟩, ⟨q1, q2, q3, q4, q5, q6⟩⟩ := HI.out.1)
                | (go_at_call_of 16 (Value.agg #[.bool ex, .slice A xs.length c, .bool r, .slice B ys.length d, .bool t]); refine (HF1.out _ (HI.go (by repeat (first | exact Below.refl _ _ | apply Below.drew | apply below_drewN | apply below_al))).out.2.1.1.1 (HI.go (by repeat (first | exact Below.refl _ _ | apply Below.drew | apply below_drewN | apply below_al))).out.2.1.1.2 (HI.go (by repeat (first | exact Below.refl _ _ | apply Below.drew | apply below_drewN | apply below_al))).out.2.2.1).mono ?_; rintro e w4 ⟨rfl, hb⟩; replace HD := HD.go2 (by repeat (first | exact Below.refl _ _ | apply Below.drew | apply below_drewN | apply below_al)) hb; replace HI := HI.go2 (by repeat (first | exact Below.refl _ _ | apply Below.drew | apply below_drewN | apply below_al)) hb; clear hb; obtain ⟨⟨p1, p2, p3, p4, p5, p6⟩, ⟨q1, q2, q3, q4, q5, q6⟩⟩ := HI.out.1; obtain ⟨⟨s1, s2, s3, s4, s5⟩, -⟩ := HD.out)
                | (go_at_call_of 16 (Value.agg #[.bool fx, .slice C zs.length e, .bool u, .slice D vs.length f, .bool v]); refine (HF2.out _ (HI.go (by repeat (first | exact Below.refl _ _ | apply Below.drew | apply below_drewN | apply below_al))).out.2.1.2.1 (HI.go (by repeat (first | exact Below.refl _ _ | apply Below.drew | apply below_drewN | apply below_al))).out.2.1.2.2 (HI.go (by repeat (first | exact Below.refl _ _ | apply Below.drew | apply below_drewN | apply below_al))).out.2.2.1).mono ?_; rintro e w5 ⟨rfl, hb⟩; replace HD := HD.go2 (by repeat (first | exact Below.refl _ _ | apply Below.drew | apply below_drewN | apply below_al)) hb; replace HI := HI.go2 (by repeat (first | exact Below.refl _ _ | apply Below.drew | apply below_drewN | apply below_al)) hb; clear hb; obtain ⟨⟨p1, p2, p3, p4, p5, p6⟩, ⟨q1, q2, q3, q4, q5, q6⟩⟩ := HI.out.1; obtain ⟨⟨s1, s2, s3, s4, s5⟩, -⟩ := HD.out)
                | (go_at_call 27; refine (HHA.out _ _ _ (HD.go (by repeat (first | exact Below.refl _ _ | apply Below.drew | apply below_drewN | apply below_al))).out.2 (HI.go (by repeat (first | exact Below.refl _ _ | apply Below.drew | apply below_drewN | apply below_al))).out.2.2.1).mono ?_; rintro e w6 ⟨rfl, hb⟩; replace HI := HI.go2 (by repeat (first | exact Below.refl _ _ | apply Below.drew | apply below_drewN | apply below_al)) hb; clear hb)
                | (go_at_call_of 14 (Value.agg #[.bool ex, .slice A xs.length c, .bool r, .slice B ys.length d, .bool t]); refine (HFA.out _ (HI.go (by repeat (first | exact Below.refl _ _ | apply Below.drew | apply below_drewN | apply below_al))).out.2.1.1.1 (HI.go (by repeat (first | exact Below.refl _ _ | apply Below.drew | apply below_drewN | apply below_al))).out.2.1.1.2 (HI.go (by repeat (first | exact Below.refl _ _ | apply Below.drew | apply below_drewN | apply below_al))).out.2.2.1).mono ?_; rintro e w1 ⟨rfl, hb⟩; replace HI := HI.go2 (by repeat (first | exact Below.refl _ _ | apply Below.drew | apply below_drewN | apply below_al)) hb; clear hb; obtain ⟨⟨p1, p2, p3, p4, p5, p6⟩, ⟨q1, q2, q3, q4, q5, q6⟩⟩ := HI.out.1)
                | (go_at_call_of 14 (Value.agg #[.bool fx, .slice C zs.length e, .bool u, .slice D vs.length f, .bool v]); refine (HFB.out _ (HI.go (by repeat (first | exact Below.refl _ _ | apply Below.drew | apply below_drewN | apply below_al))).out.2.1.2.1 (HI.go (by repeat (first | exact Below.refl _ _ | apply Below.drew | apply below_drewN | apply below_al))).out.2.1.2.2 (HI.go (by repeat (first | exact Below.refl _ _ | apply Below.drew | apply below_drewN | apply below_al))).out.2.2.1).mono ?_; rintro e w2 ⟨rfl, hb⟩; replace HI := HI.go2 (by repeat (first | exact Below.refl _ _ | apply Below.drew | apply below_drewN | apply below_al)) hb; clear hb; obtain ⟨⟨p1, p2, p3, p4, p5, p6⟩, ⟨q1, q2, q3, q4, q5, q6⟩⟩ := HI.out.1)
                | (go_at_call 15; refine (rawake_any _ (HI.go (by repeat (first | exact Below.refl _ _ | apply Below.drew | apply below_drewN | apply below_al))).out.2.2.1).mono ?_; rintro e w9 ⟨rfl, hb⟩; replace HI := HI.go2 (by repeat (first | exact Below.refl _ _ | apply Below.drew | apply below_drewN | apply below_al)) hb; clear hb))
              go_ret
              exact ⟨rfl, (HI.go (by repeat (first | exact Below.refl _ _ | apply Below.drew | apply below_drewN | apply below_al))).out.2.2.2⟩
            | true =>
              cases F2 with
              | false =>
                rw [Bool.false_and, Bool.and_false] at hm
                subst hm
                clear htt
                go_enter Tryd.func13, Tryd.ntmps13
                go_wp2_with (first
                  | (go_at_call 32; refine (HAG.out _ (HI.go (by repeat (first | exact Below.refl _ _ | apply Below.drew | apply below_drewN | apply below_al))).out.2.1.1.1 (HI.go (by repeat (first | exact Below.refl _ _ | apply Below.drew | apply below_drewN | apply below_al))).out.2.1.1.2 (HI.go (by repeat (first | exact Below.refl _ _ | apply Below.drew | apply below_drewN | apply below_al))).out.2.1.2.1 (HI.go (by repeat (first | exact Below.refl _ _ | apply Below.drew | apply below_drewN | apply below_al))).out.2.1.2.2 (HI.go (by repeat (first | exact Below.refl _ _ | apply Below.drew | apply below_drewN | apply below_al))).out.2.2.1).mono ?_; rintro e w3 ⟨E, m, rfl, hr, hb⟩; replace HI := HI.go2 (by repeat (first | exact Below.refl _ _ | apply Below.drew | apply below_drewN | apply below_al)) hb; clear hb; have HD := At.rb2 (q := q) hr; have d1 := hr.1; have d2 := hr.2.1; clear hr; obtain ⟨⟨p1, p2, p3, p4, p5, p6⟩, ⟨q1, q2, q3, q4, q5, q6⟩⟩ := HI.out.1)
                  | (go_at_call_of 16 (Value.agg #[.bool ex, .slice A xs.length c, .bool r, .slice B ys.length d, .bool t]); refine (HF1.out _ (HI.go (by repeat (first | exact Below.refl _ _ | apply Below.drew | apply below_drewN | apply below_al))).out.2.1.1.1 (HI.go (by repeat (first | exact Below.refl _ _ | apply Below.drew | apply below_drewN | apply below_al))).out.2.1.1.2 (HI.go (by repeat (first | exact Below.refl _ _ | apply Below.drew | apply below_drewN | apply below_al))).out.2.2.1).mono ?_; rintro e w4 ⟨rfl, hb⟩; replace HD := HD.go2 (by repeat (first | exact Below.refl _ _ | apply Below.drew | apply below_drewN | apply below_al)) hb; replace HI := HI.go2 (by repeat (first | exact Below.refl _ _ | apply Below.drew | apply below_drewN | apply below_al)) hb; clear hb; obtain ⟨⟨p1, p2, p3, p4, p5, p6⟩, ⟨q1, q2, q3, q4, q5, q6⟩⟩ := HI.out.1; obtain ⟨⟨s1, s2, s3, s4, s5⟩, -⟩ := HD.out)
                  | (go_at_call_of 16 (Value.agg #[.bool fx, .slice C zs.length e, .bool u, .slice D vs.length f, .bool v]); refine (HF2.out _ (HI.go (by repeat (first | exact Below.refl _ _ | apply Below.drew | apply below_drewN | apply below_al))).out.2.1.2.1 (HI.go (by repeat (first | exact Below.refl _ _ | apply Below.drew | apply below_drewN | apply below_al))).out.2.1.2.2 (HI.go (by repeat (first | exact Below.refl _ _ | apply Below.drew | apply below_drewN | apply below_al))).out.2.2.1).mono ?_; rintro e w5 ⟨rfl, hb⟩; replace HD := HD.go2 (by repeat (first | exact Below.refl _ _ | apply Below.drew | apply below_drewN | apply below_al)) hb; replace HI := HI.go2 (by repeat (first | exact Below.refl _ _ | apply Below.drew | apply below_drewN | apply below_al)) hb; clear hb; obtain ⟨⟨p1, p2, p3, p4, p5, p6⟩, ⟨q1, q2, q3, q4, q5, q6⟩⟩ := HI.out.1; obtain ⟨⟨s1, s2, s3, s4, s5⟩, -⟩ := HD.out)
                  | (go_at_call 27; refine (HHA.out _ _ _ (HD.go (by repeat (first | exact Below.refl _ _ | apply Below.drew | apply below_drewN | apply below_al))).out.2 (HI.go (by repeat (first | exact Below.refl _ _ | apply Below.drew | apply below_drewN | apply below_al))).out.2.2.1).mono ?_; rintro e w6 ⟨rfl, hb⟩; replace HI := HI.go2 (by repeat (first | exact Below.refl _ _ | apply Below.drew | apply below_drewN | apply below_al)) hb; clear hb)
                  | (go_at_call_of 14 (Value.agg #[.bool ex, .slice A xs.length c, .bool r, .slice B ys.length d, .bool t]); refine (HFA.out _ (HI.go (by repeat (first | exact Below.refl _ _ | apply Below.drew | apply below_drewN | apply below_al))).out.2.1.1.1 (HI.go (by repeat (first | exact Below.refl _ _ | apply Below.drew | apply below_drewN | apply below_al))).out.2.1.1.2 (HI.go (by repeat (first | exact Below.refl _ _ | apply Below.drew | apply below_drewN | apply below_al))).out.2.2.1).mono ?_; rintro e w1 ⟨rfl, hb⟩; replace HI := HI.go2 (by repeat (first | exact Below.refl _ _ | apply Below.drew | apply below_drewN | apply below_al)) hb; clear hb; obtain ⟨⟨p1, p2, p3, p4, p5, p6⟩, ⟨q1, q2, q3, q4, q5, q6⟩⟩ := HI.out.1)
                  | (go_at_call_of 14 (Value.agg #[.bool fx, .slice C zs.length e, .bool u, .slice D vs.length f, .bool v]); refine (HFB.out _ (HI.go (by repeat (first | exact Below.refl _ _ | apply Below.drew | apply below_drewN | apply below_al))).out.2.1.2.1 (HI.go (by repeat (first | exact Below.refl _ _ | apply Below.drew | apply below_drewN | apply below_al))).out.2.1.2.2 (HI.go (by repeat (first | exact Below.refl _ _ | apply Below.drew | apply below_drewN | apply below_al))).out.2.2.1).mono ?_; rintro e w2 ⟨rfl, hb⟩; replace HI := HI.go2 (by repeat (first | exact Below.refl _ _ | apply Below.drew | apply below_drewN | apply below_al)) hb; clear hb; obtain ⟨⟨p1, p2, p3, p4, p5, p6⟩, ⟨q1, q2, q3, q4, q5, q6⟩⟩ := HI.out.1)
                  | (go_at_call 15; refine (rawake_any _ (HI.go (by repeat (first | exact Below.refl _ _ | apply Below.drew | apply below_drewN | apply below_al))).out.2.2.1).mono ?_; rintro e w9 ⟨rfl, hb⟩; replace HI := HI.go2 (by repeat (first | exact Below.refl _ _ | apply Below.drew | apply below_drewN | apply below_al)) hb; clear hb))
                go_ret
                exact ⟨rfl, (HI.go (by repeat (first | exact Below.refl _ _ | apply Below.drew | apply below_drewN | apply below_al))).out.2.2.2⟩
              | true =>
                rw [Bool.true_and, Bool.true_and] at hm
                by_cases hT : T1 = T2
                · subst hT
                  have h11 := htt T1
                  rw [decide_eq_true rfl] at hm
                  subst hm
                  clear htt
                  go_enter Tryd.func13, Tryd.ntmps13
                  go_wp2_with (first
                    | (go_at_call 32; refine (HAG.out _ (HI.go (by repeat (first | exact Below.refl _ _ | apply Below.drew | apply below_drewN | apply below_al))).out.2.1.1.1 (HI.go (by repeat (first | exact Below.refl _ _ | apply Below.drew | apply below_drewN | apply below_al))).out.2.1.1.2 (HI.go (by repeat (first | exact Below.refl _ _ | apply Below.drew | apply below_drewN | apply below_al))).out.2.1.2.1 (HI.go (by repeat (first | exact Below.refl _ _ | apply Below.drew | apply below_drewN | apply below_al))).out.2.1.2.2 (HI.go (by repeat (first | exact Below.refl _ _ | apply Below.drew | apply below_drewN | apply below_al))).out.2.2.1).mono ?_; rintro e w3 ⟨E, m, rfl, hr, hb⟩; replace HI := HI.go2 (by repeat (first | exact Below.refl _ _ | apply Below.drew | apply below_drewN | apply below_al)) hb; clear hb; have HD := At.rb2 (q := q) hr; have d1 := hr.1; have d2 := hr.2.1; clear hr; obtain ⟨⟨p1, p2, p3, p4, p5, p6⟩, ⟨q1, q2, q3, q4, q5, q6⟩⟩ := HI.out.1)
                    | (go_at_call_of 16 (Value.agg #[.bool ex, .slice A xs.length c, .bool r, .slice B ys.length d, .bool t]); refine (HF1.out _ (HI.go (by repeat (first | exact Below.refl _ _ | apply Below.drew | apply below_drewN | apply below_al))).out.2.1.1.1 (HI.go (by repeat (first | exact Below.refl _ _ | apply Below.drew | apply below_drewN | apply below_al))).out.2.1.1.2 (HI.go (by repeat (first | exact Below.refl _ _ | apply Below.drew | apply below_drewN | apply below_al))).out.2.2.1).mono ?_; rintro e w4 ⟨rfl, hb⟩; replace HD := HD.go2 (by repeat (first | exact Below.refl _ _ | apply Below.drew | apply below_drewN | apply below_al)) hb; replace HI := HI.go2 (by repeat (first | exact Below.refl _ _ | apply Below.drew | apply below_drewN | apply below_al)) hb; clear hb; obtain ⟨⟨p1, p2, p3, p4, p5, p6⟩, ⟨q1, q2, q3, q4, q5, q6⟩⟩ := HI.out.1; obtain ⟨⟨s1, s2, s3, s4, s5⟩, -⟩ := HD.out)
                    | (go_at_call_of 16 (Value.agg #[.bool fx, .slice C zs.length e, .bool u, .slice D vs.length f, .bool v]); refine (HF2.out _ (HI.go (by repeat (first | exact Below.refl _ _ | apply Below.drew | apply below_drewN | apply below_al))).out.2.1.2.1 (HI.go (by repeat (first | exact Below.refl _ _ | apply Below.drew | apply below_drewN | apply below_al))).out.2.1.2.2 (HI.go (by repeat (first | exact Below.refl _ _ | apply Below.drew | apply below_drewN | apply below_al))).out.2.2.1).mono ?_; rintro e w5 ⟨rfl, hb⟩; replace HD := HD.go2 (by repeat (first | exact Below.refl _ _ | apply Below.drew | apply below_drewN | apply below_al)) hb; replace HI := HI.go2 (by repeat (first | exact Below.refl _ _ | apply Below.drew | apply below_drewN | apply below_al)) hb; clear hb; obtain ⟨⟨p1, p2, p3, p4, p5, p6⟩, ⟨q1, q2, q3, q4, q5, q6⟩⟩ := HI.out.1; obtain ⟨⟨s1, s2, s3, s4, s5⟩, -⟩ := HD.out)
                    | (go_at_call 27; refine (HHA.out _ _ _ (HD.go (by repeat (first | exact Below.refl _ _ | apply Below.drew | apply below_drewN | apply below_al))).out.2 (HI.go (by repeat (first | exact Below.refl _ _ | apply Below.drew | apply below_drewN | apply below_al))).out.2.2.1).mono ?_; rintro e w6 ⟨rfl, hb⟩; replace HI := HI.go2 (by repeat (first | exact Below.refl _ _ | apply Below.drew | apply below_drewN | apply below_al)) hb; clear hb)
                    | (go_at_call_of 14 (Value.agg #[.bool ex, .slice A xs.length c, .bool r, .slice B ys.length d, .bool t]); refine (HFA.out _ (HI.go (by repeat (first | exact Below.refl _ _ | apply Below.drew | apply below_drewN | apply below_al))).out.2.1.1.1 (HI.go (by repeat (first | exact Below.refl _ _ | apply Below.drew | apply below_drewN | apply below_al))).out.2.1.1.2 (HI.go (by repeat (first | exact Below.refl _ _ | apply Below.drew | apply below_drewN | apply below_al))).out.2.2.1).mono ?_; rintro e w1 ⟨rfl, hb⟩; replace HI := HI.go2 (by repeat (first | exact Below.refl _ _ | apply Below.drew | apply below_drewN | apply below_al)) hb; clear hb; obtain ⟨⟨p1, p2, p3, p4, p5, p6⟩, ⟨q1, q2, q3, q4, q5, q6⟩⟩ := HI.out.1)
                    | (go_at_call_of 14 (Value.agg #[.bool fx, .slice C zs.length e, .bool u, .slice D vs.length f, .bool v]); refine (HFB.out _ (HI.go (by repeat (first | exact Below.refl _ _ | apply Below.drew | apply below_drewN | apply below_al))).out.2.1.2.1 (HI.go (by repeat (first | exact Below.refl _ _ | apply Below.drew | apply below_drewN | apply below_al))).out.2.1.2.2 (HI.go (by repeat (first | exact Below.refl _ _ | apply Below.drew | apply below_drewN | apply below_al))).out.2.2.1).mono ?_; rintro e w2 ⟨rfl, hb⟩; replace HI := HI.go2 (by repeat (first | exact Below.refl _ _ | apply Below.drew | apply below_drewN | apply below_al)) hb; clear hb; obtain ⟨⟨p1, p2, p3, p4, p5, p6⟩, ⟨q1, q2, q3, q4, q5, q6⟩⟩ := HI.out.1)
                    | (go_at_call 15; refine (rawake_any _ (HI.go (by repeat (first | exact Below.refl _ _ | apply Below.drew | apply below_drewN | apply below_al))).out.2.2.1).mono ?_; rintro e w9 ⟨rfl, hb⟩; replace HI := HI.go2 (by repeat (first | exact Below.refl _ _ | apply Below.drew | apply below_drewN | apply below_al)) hb; clear hb))
                  go_ret
                  exact ⟨rfl, (HI.go (by repeat (first | exact Below.refl _ _ | apply Below.drew | apply below_drewN | apply below_al))).out.2.2.2⟩
                · have h11 := txt_ne hT
                  rw [decide_eq_false hT] at hm
                  subst hm
                  clear htt hT
                  go_enter Tryd.func13, Tryd.ntmps13
                  go_wp2_with (first
                    | (go_at_call 32; refine (HAG.out _ (HI.go (by repeat (first | exact Below.refl _ _ | apply Below.drew | apply below_drewN | apply below_al))).out.2.1.1.1 (HI.go (by repeat (first | exact Below.refl _ _ | apply Below.drew | apply below_drewN | apply below_al))).out.2.1.1.2 (HI.go (by repeat (first | exact Below.refl _ _ | apply Below.drew | apply below_drewN | apply below_al))).out.2.1.2.1 (HI.go (by repeat (first | exact Below.refl _ _ | apply Below.drew | apply below_drewN | apply below_al))).out.2.1.2.2 (HI.go (by repeat (first | exact Below.refl _ _ | apply Below.drew | apply below_drewN | apply below_al))).out.2.2.1).mono ?_; rintro e w3 ⟨E, m, rfl, hr, hb⟩; replace HI := HI.go2 (by repeat (first | exact Below.refl _ _ | apply Below.drew | apply below_drewN | apply below_al)) hb; clear hb; have HD := At.rb2 (q := q) hr; have d1 := hr.1; have d2 := hr.2.1; clear hr; obtain ⟨⟨p1, p2, p3, p4, p5, p6⟩, ⟨q1, q2, q3, q4, q5, q6⟩⟩ := HI.out.1)
                    | (go_at_call_of 16 (Value.agg #[.bool ex, .slice A xs.length c, .bool r, .slice B ys.length d, .bool t]); refine (HF1.out _ (HI.go (by repeat (first | exact Below.refl _ _ | apply Below.drew | apply below_drewN | apply below_al))).out.2.1.1.1 (HI.go (by repeat (first | exact Below.refl _ _ | apply Below.drew | apply below_drewN | apply below_al))).out.2.1.1.2 (HI.go (by repeat (first | exact Below.refl _ _ | apply Below.drew | apply below_drewN | apply below_al))).out.2.2.1).mono ?_; rintro e w4 ⟨rfl, hb⟩; replace HD := HD.go2 (by repeat (first | exact Below.refl _ _ | apply Below.drew | apply below_drewN | apply below_al)) hb; replace HI := HI.go2 (by repeat (first | exact Below.refl _ _ | apply Below.drew | apply below_drewN | apply below_al)) hb; clear hb; obtain ⟨⟨p1, p2, p3, p4, p5, p6⟩, ⟨q1, q2, q3, q4, q5, q6⟩⟩ := HI.out.1; obtain ⟨⟨s1, s2, s3, s4, s5⟩, -⟩ := HD.out)
                    | (go_at_call_of 16 (Value.agg #[.bool fx, .slice C zs.length e, .bool u, .slice D vs.length f, .bool v]); refine (HF2.out _ (HI.go (by repeat (first | exact Below.refl _ _ | apply Below.drew | apply below_drewN | apply below_al))).out.2.1.2.1 (HI.go (by repeat (first | exact Below.refl _ _ | apply Below.drew | apply below_drewN | apply below_al))).out.2.1.2.2 (HI.go (by repeat (first | exact Below.refl _ _ | apply Below.drew | apply below_drewN | apply below_al))).out.2.2.1).mono ?_; rintro e w5 ⟨rfl, hb⟩; replace HD := HD.go2 (by repeat (first | exact Below.refl _ _ | apply Below.drew | apply below_drewN | apply below_al)) hb; replace HI := HI.go2 (by repeat (first | exact Below.refl _ _ | apply Below.drew | apply below_drewN | apply below_al)) hb; clear hb; obtain ⟨⟨p1, p2, p3, p4, p5, p6⟩, ⟨q1, q2, q3, q4, q5, q6⟩⟩ := HI.out.1; obtain ⟨⟨s1, s2, s3, s4, s5⟩, -⟩ := HD.out)
                    | (go_at_call 27; refine (HHA.out _ _ _ (HD.go (by repeat (first | exact Below.refl _ _ | apply Below.drew | apply below_drewN | apply below_al))).out.2 (HI.go (by repeat (first | exact Below.refl _ _ | apply Below.drew | apply below_drewN | apply below_al))).out.2.2.1).mono ?_; rintro e w6 ⟨rfl, hb⟩; replace HI := HI.go2 (by repeat (first | exact Below.refl _ _ | apply Below.drew | apply below_drewN | apply below_al)) hb; clear hb)
                    | (go_at_call_of 14 (Value.agg #[.bool ex, .slice A xs.length c, .bool r, .slice B ys.length d, .bool t]); refine (HFA.out _ (HI.go (by repeat (first | exact Below.refl _ _ | apply Below.drew | apply below_drewN | apply below_al))).out.2.1.1.1 (HI.go (by repeat (first | exact Below.refl _ _ | apply Below.drew | apply below_drewN | apply below_al))).out.2.1.1.2 (HI.go (by repeat (first | exact Below.refl _ _ | apply Below.drew | apply below_drewN | apply below_al))).out.2.2.1).mono ?_; rintro e w1 ⟨rfl, hb⟩; replace HI := HI.go2 (by repeat (first | exact Below.refl _ _ | apply Below.drew | apply below_drewN | apply below_al)) hb; clear hb; obtain ⟨⟨p1, p2, p3, p4, p5, p6⟩, ⟨q1, q2, q3, q4, q5, q6⟩⟩ := HI.out.1)
                    | (go_at_call_of 14 (Value.agg #[.bool fx, .slice C zs.length e, .bool u, .slice D vs.length f, .bool v]); refine (HFB.out _ (HI.go (by repeat (first | exact Below.refl _ _ | apply Below.drew | apply below_drewN | apply below_al))).out.2.1.2.1 (HI.go (by repeat (first | exact Below.refl _ _ | apply Below.drew | apply below_drewN | apply below_al))).out.2.1.2.2 (HI.go (by repeat (first | exact Below.refl _ _ | apply Below.drew | apply below_drewN | apply below_al))).out.2.2.1).mono ?_; rintro e w2 ⟨rfl, hb⟩; replace HI := HI.go2 (by repeat (first | exact Below.refl _ _ | apply Below.drew | apply below_drewN | apply below_al)) hb; clear hb; obtain ⟨⟨p1, p2, p3, p4, p5, p6⟩, ⟨q1, q2, q3, q4, q5, q6⟩⟩ := HI.out.1)
                    | (go_at_call 15; refine (rawake_any _ (HI.go (by repeat (first | exact Below.refl _ _ | apply Below.drew | apply below_drewN | apply below_al))).out.2.2.1).mono ?_; rintro e w9 ⟨rfl, hb⟩; replace HI := HI.go2 (by repeat (first | exact Below.refl _ _ | apply Below.drew | apply below_drewN | apply below_al)) hb; clear hb))
                  go_ret
                  exact ⟨rfl, (HI.go (by repeat (first | exact Below.refl _ _ | apply Below.drew | apply below_drewN | apply below_al))).out.2.2.2⟩
          | false =>
            rw [hok] at HAG hm
            clear HQ hok HHA
            rw [Bool.false_and] at hm HAG
            generalize (agZ xs r ys t zs u vs v).1 = L at *
            generalize fwdO zs u vs v s = F2 at *
            generalize fwdT zs u vs v s = T2 at *
            generalize fwdO xs r ys t s = F1 at *
            generalize fwdT xs r ys t s = T1 at *
            clear hsh h hz hg k kz kg h' hz' hg' k' kz' kg' hf hf' hsx hsy hsz hsv hlx hlz fa fb
            cases F1 with
            | false =>
              clear htt hm
              go_enter Tryd.func13, Tryd.ntmps13
              go_wp2_with (first
                | (go_at_call 32; refine (HAG.out _ (HI.go (by repeat (first | exact Below.refl _ _ | apply Below.drew | apply below_drewN | apply below_al))).out.2.1.1.1 (HI.go (by repeat (first | exact Below.refl _ _ | apply Below.drew | apply below_drewN | apply below_al))).out.2.1.1.2 (HI.go (by repeat (first | exact Below.refl _ _ | apply Below.drew | apply below_drewN | apply below_al))).out.2.1.2.1 (HI.go (by repeat (first | exact Below.refl _ _ | apply Below.drew | apply below_drewN | apply below_al))).out.2.1.2.2 (HI.go (by repeat (first | exact Below.refl _ _ | apply Below.drew | apply below_drewN | apply below_al))).out.2.2.1).mono ?_; rintro e w3 ⟨E, m, rfl, hr, hb⟩; replace HI := HI.go2 (by repeat (first | exact Below.refl _ _ | apply Below.drew | apply below_drewN | apply below_al)) hb; clear hb; have HD := At.rb2 (q := false) hr; have d1 := hr.1; have d2 := hr.2.1; clear hr; obtain ⟨⟨p1, p2, p3, p4, p5, p6⟩, ⟨q1, q2, q3, q4, q5, q6⟩⟩ := HI.out.1)
                | (go_at_call_of 16 (Value.agg #[.bool ex, .slice A xs.length c, .bool r, .slice B ys.length d, .bool t]); refine (HF1.out _ (HI.go (by repeat (first | exact Below.refl _ _ | apply Below.drew | apply below_drewN | apply below_al))).out.2.1.1.1 (HI.go (by repeat (first | exact Below.refl _ _ | apply Below.drew | apply below_drewN | apply below_al))).out.2.1.1.2 (HI.go (by repeat (first | exact Below.refl _ _ | apply Below.drew | apply below_drewN | apply below_al))).out.2.2.1).mono ?_; rintro e w4 ⟨rfl, hb⟩; replace HD := HD.go2 (by repeat (first | exact Below.refl _ _ | apply Below.drew | apply below_drewN | apply below_al)) hb; replace HI := HI.go2 (by repeat (first | exact Below.refl _ _ | apply Below.drew | apply below_drewN | apply below_al)) hb; clear hb; obtain ⟨⟨p1, p2, p3, p4, p5, p6⟩, ⟨q1, q2, q3, q4, q5, q6⟩⟩ := HI.out.1; obtain ⟨⟨s1, s2, s3, s4, s5⟩, -⟩ := HD.out)
                | (go_at_call_of 16 (Value.agg #[.bool fx, .slice C zs.length e, .bool u, .slice D vs.length f, .bool v]); refine (HF2.out _ (HI.go (by repeat (first | exact Below.refl _ _ | apply Below.drew | apply below_drewN | apply below_al))).out.2.1.2.1 (HI.go (by repeat (first | exact Below.refl _ _ | apply Below.drew | apply below_drewN | apply below_al))).out.2.1.2.2 (HI.go (by repeat (first | exact Below.refl _ _ | apply Below.drew | apply below_drewN | apply below_al))).out.2.2.1).mono ?_; rintro e w5 ⟨rfl, hb⟩; replace HD := HD.go2 (by repeat (first | exact Below.refl _ _ | apply Below.drew | apply below_drewN | apply below_al)) hb; replace HI := HI.go2 (by repeat (first | exact Below.refl _ _ | apply Below.drew | apply below_drewN | apply below_al)) hb; clear hb; obtain ⟨⟨p1, p2, p3, p4, p5, p6⟩, ⟨q1, q2, q3, q4, q5, q6⟩⟩ := HI.out.1; obtain ⟨⟨s1, s2, s3, s4, s5⟩, -⟩ := HD.out)
                | (go_at_call 27; refine (HHA.out _ _ _ (HD.go (by repeat (first | exact Below.refl _ _ | apply Below.drew | apply below_drewN | apply below_al))).out.2 (HI.go (by repeat (first | exact Below.refl _ _ | apply Below.drew | apply below_drewN | apply below_al))).out.2.2.1).mono ?_; rintro e w6 ⟨rfl, hb⟩; replace HI := HI.go2 (by repeat (first | exact Below.refl _ _ | apply Below.drew | apply below_drewN | apply below_al)) hb; clear hb)
                | (go_at_call_of 14 (Value.agg #[.bool ex, .slice A xs.length c, .bool r, .slice B ys.length d, .bool t]); refine (HFA.out _ (HI.go (by repeat (first | exact Below.refl _ _ | apply Below.drew | apply below_drewN | apply below_al))).out.2.1.1.1 (HI.go (by repeat (first | exact Below.refl _ _ | apply Below.drew | apply below_drewN | apply below_al))).out.2.1.1.2 (HI.go (by repeat (first | exact Below.refl _ _ | apply Below.drew | apply below_drewN | apply below_al))).out.2.2.1).mono ?_; rintro e w1 ⟨rfl, hb⟩; replace HI := HI.go2 (by repeat (first | exact Below.refl _ _ | apply Below.drew | apply below_drewN | apply below_al)) hb; clear hb; obtain ⟨⟨p1, p2, p3, p4, p5, p6⟩, ⟨q1, q2, q3, q4, q5, q6⟩⟩ := HI.out.1)
                | (go_at_call_of 14 (Value.agg #[.bool fx, .slice C zs.length e, .bool u, .slice D vs.length f, .bool v]); refine (HFB.out _ (HI.go (by repeat (first | exact Below.refl _ _ | apply Below.drew | apply below_drewN | apply below_al))).out.2.1.2.1 (HI.go (by repeat (first | exact Below.refl _ _ | apply Below.drew | apply below_drewN | apply below_al))).out.2.1.2.2 (HI.go (by repeat (first | exact Below.refl _ _ | apply Below.drew | apply below_drewN | apply below_al))).out.2.2.1).mono ?_; rintro e w2 ⟨rfl, hb⟩; replace HI := HI.go2 (by repeat (first | exact Below.refl _ _ | apply Below.drew | apply below_drewN | apply below_al)) hb; clear hb; obtain ⟨⟨p1, p2, p3, p4, p5, p6⟩, ⟨q1, q2, q3, q4, q5, q6⟩⟩ := HI.out.1)
                | (go_at_call 15; refine (rawake_any _ (HI.go (by repeat (first | exact Below.refl _ _ | apply Below.drew | apply below_drewN | apply below_al))).out.2.2.1).mono ?_; rintro e w9 ⟨rfl, hb⟩; replace HI := HI.go2 (by repeat (first | exact Below.refl _ _ | apply Below.drew | apply below_drewN | apply below_al)) hb; clear hb))
              go_ret
              exact ⟨rfl, (HI.go (by repeat (first | exact Below.refl _ _ | apply Below.drew | apply below_drewN | apply below_al))).out.2.2.2⟩
            | true =>
              cases F2 with
              | false =>
                clear htt hm
                go_enter Tryd.func13, Tryd.ntmps13
                go_wp2_with (first
                  | (go_at_call 32; refine (HAG.out _ (HI.go (by repeat (first | exact Below.refl _ _ | apply Below.drew | apply below_drewN | apply below_al))).out.2.1.1.1 (HI.go (by repeat (first | exact Below.refl _ _ | apply Below.drew | apply below_drewN | apply below_al))).out.2.1.1.2 (HI.go (by repeat (first | exact Below.refl _ _ | apply Below.drew | apply below_drewN | apply below_al))).out.2.1.2.1 (HI.go (by repeat (first | exact Below.refl _ _ | apply Below.drew | apply below_drewN | apply below_al))).out.2.1.2.2 (HI.go (by repeat (first | exact Below.refl _ _ | apply Below.drew | apply below_drewN | apply below_al))).out.2.2.1).mono ?_; rintro e w3 ⟨E, m, rfl, hr, hb⟩; replace HI := HI.go2 (by repeat (first | exact Below.refl _ _ | apply Below.drew | apply below_drewN | apply below_al)) hb; clear hb; have HD := At.rb2 (q := false) hr; have d1 := hr.1; have d2 := hr.2.1; clear hr; obtain ⟨⟨p1, p2, p3, p4, p5, p6⟩, ⟨q1, q2, q3, q4, q5, q6⟩⟩ := HI.out.1)
                  | (go_at_call_of 16 (Value.agg #[.bool ex, .slice A xs.length c, .bool r, .slice B ys.length d, .bool t]); refine (HF1.out _ (HI.go (by repeat (first | exact Below.refl _ _ | apply Below.drew | apply below_drewN | apply below_al))).out.2.1.1.1 (HI.go (by repeat (first | exact Below.refl _ _ | apply Below.drew | apply below_drewN | apply below_al))).out.2.1.1.2 (HI.go (by repeat (first | exact Below.refl _ _ | apply Below.drew | apply below_drewN | apply below_al))).out.2.2.1).mono ?_; rintro e w4 ⟨rfl, hb⟩; replace HD := HD.go2 (by repeat (first | exact Below.refl _ _ | apply Below.drew | apply below_drewN | apply below_al)) hb; replace HI := HI.go2 (by repeat (first | exact Below.refl _ _ | apply Below.drew | apply below_drewN | apply below_al)) hb; clear hb; obtain ⟨⟨p1, p2, p3, p4, p5, p6⟩, ⟨q1, q2, q3, q4, q5, q6⟩⟩ := HI.out.1; obtain ⟨⟨s1, s2, s3, s4, s5⟩, -⟩ := HD.out)
                  | (go_at_call_of 16 (Value.agg #[.bool fx, .slice C zs.length e, .bool u, .slice D vs.length f, .bool v]); refine (HF2.out _ (HI.go (by repeat (first | exact Below.refl _ _ | apply Below.drew | apply below_drewN | apply below_al))).out.2.1.2.1 (HI.go (by repeat (first | exact Below.refl _ _ | apply Below.drew | apply below_drewN | apply below_al))).out.2.1.2.2 (HI.go (by repeat (first | exact Below.refl _ _ | apply Below.drew | apply below_drewN | apply below_al))).out.2.2.1).mono ?_; rintro e w5 ⟨rfl, hb⟩; replace HD := HD.go2 (by repeat (first | exact Below.refl _ _ | apply Below.drew | apply below_drewN | apply below_al)) hb; replace HI := HI.go2 (by repeat (first | exact Below.refl _ _ | apply Below.drew | apply below_drewN | apply below_al)) hb; clear hb; obtain ⟨⟨p1, p2, p3, p4, p5, p6⟩, ⟨q1, q2, q3, q4, q5, q6⟩⟩ := HI.out.1; obtain ⟨⟨s1, s2, s3, s4, s5⟩, -⟩ := HD.out)
                  | (go_at_call 27; refine (HHA.out _ _ _ (HD.go (by repeat (first | exact Below.refl _ _ | apply Below.drew | apply below_drewN | apply below_al))).out.2 (HI.go (by repeat (first | exact Below.refl _ _ | apply Below.drew | apply below_drewN | apply below_al))).out.2.2.1).mono ?_; rintro e w6 ⟨rfl, hb⟩; replace HI := HI.go2 (by repeat (first | exact Below.refl _ _ | apply Below.drew | apply below_drewN | apply below_al)) hb; clear hb)
                  | (go_at_call_of 14 (Value.agg #[.bool ex, .slice A xs.length c, .bool r, .slice B ys.length d, .bool t]); refine (HFA.out _ (HI.go (by repeat (first | exact Below.refl _ _ | apply Below.drew | apply below_drewN | apply below_al))).out.2.1.1.1 (HI.go (by repeat (first | exact Below.refl _ _ | apply Below.drew | apply below_drewN | apply below_al))).out.2.1.1.2 (HI.go (by repeat (first | exact Below.refl _ _ | apply Below.drew | apply below_drewN | apply below_al))).out.2.2.1).mono ?_; rintro e w1 ⟨rfl, hb⟩; replace HI := HI.go2 (by repeat (first | exact Below.refl _ _ | apply Below.drew | apply below_drewN | apply below_al)) hb; clear hb; obtain ⟨⟨p1, p2, p3, p4, p5, p6⟩, ⟨q1, q2, q3, q4, q5, q6⟩⟩ := HI.out.1)
                  | (go_at_call_of 14 (Value.agg #[.bool fx, .slice C zs.length e, .bool u, .slice D vs.length f, .bool v]); refine (HFB.out _ (HI.go (by repeat (first | exact Below.refl _ _ | apply Below.drew | apply below_drewN | apply below_al))).out.2.1.2.1 (HI.go (by repeat (first | exact Below.refl _ _ | apply Below.drew | apply below_drewN | apply below_al))).out.2.1.2.2 (HI.go (by repeat (first | exact Below.refl _ _ | apply Below.drew | apply below_drewN | apply below_al))).out.2.2.1).mono ?_; rintro e w2 ⟨rfl, hb⟩; replace HI := HI.go2 (by repeat (first | exact Below.refl _ _ | apply Below.drew | apply below_drewN | apply below_al)) hb; clear hb; obtain ⟨⟨p1, p2, p3, p4, p5, p6⟩, ⟨q1, q2, q3, q4, q5, q6⟩⟩ := HI.out.1)
                  | (go_at_call 15; refine (rawake_any _ (HI.go (by repeat (first | exact Below.refl _ _ | apply Below.drew | apply below_drewN | apply below_al))).out.2.2.1).mono ?_; rintro e w9 ⟨rfl, hb⟩; replace HI := HI.go2 (by repeat (first | exact Below.refl _ _ | apply Below.drew | apply below_drewN | apply below_al)) hb; clear hb))
                go_ret
                exact ⟨rfl, (HI.go (by repeat (first | exact Below.refl _ _ | apply Below.drew | apply below_drewN | apply below_al))).out.2.2.2⟩
              | true =>
                rw [Bool.true_and, Bool.true_and] at hm
                have h11 := txt_ne (of_decide_eq_false hm)
                clear htt hm
                go_enter Tryd.func13, Tryd.ntmps13
                go_wp2_with (first
                  | (go_at_call 32; refine (HAG.out _ (HI.go (by repeat (first | exact Below.refl _ _ | apply Below.drew | apply below_drewN | apply below_al))).out.2.1.1.1 (HI.go (by repeat (first | exact Below.refl _ _ | apply Below.drew | apply below_drewN | apply below_al))).out.2.1.1.2 (HI.go (by repeat (first | exact Below.refl _ _ | apply Below.drew | apply below_drewN | apply below_al))).out.2.1.2.1 (HI.go (by repeat (first | exact Below.refl _ _ | apply Below.drew | apply below_drewN | apply below_al))).out.2.1.2.2 (HI.go (by repeat (first | exact Below.refl _ _ | apply Below.drew | apply below_drewN | apply below_al))).out.2.2.1).mono ?_; rintro e w3 ⟨E, m, rfl, hr, hb⟩; replace HI := HI.go2 (by repeat (first | exact Below.refl _ _ | apply Below.drew | apply below_drewN | apply below_al)) hb; clear hb; have HD := At.rb2 (q := false) hr; have d1 := hr.1; have d2 := hr.2.1; clear hr; obtain ⟨⟨p1, p2, p3, p4, p5, p6⟩, ⟨q1, q2, q3, q4, q5, q6⟩⟩ := HI.out.1)
                  | (go_at_call_of 16 (Value.agg #[.bool ex, .slice A xs.length c, .bool r, .slice B ys.length d, .bool t]); refine (HF1.out _ (HI.go (by repeat (first | exact Below.refl _ _ | apply Below.drew | apply below_drewN | apply below_al))).out.2.1.1.1 (HI.go (by repeat (first | exact Below.refl _ _ | apply Below.drew | apply below_drewN | apply below_al))).out.2.1.1.2 (HI.go (by repeat (first | exact Below.refl _ _ | apply Below.drew | apply below_drewN | apply below_al))).out.2.2.1).mono ?_; rintro e w4 ⟨rfl, hb⟩; replace HD := HD.go2 (by repeat (first | exact Below.refl _ _ | apply Below.drew | apply below_drewN | apply below_al)) hb; replace HI := HI.go2 (by repeat (first | exact Below.refl _ _ | apply Below.drew | apply below_drewN | apply below_al)) hb; clear hb; obtain ⟨⟨p1, p2, p3, p4, p5, p6⟩, ⟨q1, q2, q3, q4, q5, q6⟩⟩ := HI.out.1; obtain ⟨⟨s1, s2, s3, s4, s5⟩, -⟩ := HD.out)
                  | (go_at_call_of 16 (Value.agg #[.bool fx, .slice C zs.length e, .bool u, .slice D vs.length f, .bool v]); refine (HF2.out _ (HI.go (by repeat (first | exact Below.refl _ _ | apply Below.drew | apply below_drewN | apply below_al))).out.2.1.2.1 (HI.go (by repeat (first | exact Below.refl _ _ | apply Below.drew | apply below_drewN | apply below_al))).out.2.1.2.2 (HI.go (by repeat (first | exact Below.refl _ _ | apply Below.drew | apply below_drewN | apply below_al))).out.2.2.1).mono ?_; rintro e w5 ⟨rfl, hb⟩; replace HD := HD.go2 (by repeat (first | exact Below.refl _ _ | apply Below.drew | apply below_drewN | apply below_al)) hb; replace HI := HI.go2 (by repeat (first | exact Below.refl _ _ | apply Below.drew | apply below_drewN | apply below_al)) hb; clear hb; obtain ⟨⟨p1, p2, p3, p4, p5, p6⟩, ⟨q1, q2, q3, q4, q5, q6⟩⟩ := HI.out.1; obtain ⟨⟨s1, s2, s3, s4, s5⟩, -⟩ := HD.out)
                  | (go_at_call 27; refine (HHA.out _ _ _ (HD.go (by repeat (first | exact Below.refl _ _ | apply Below.drew | apply below_drewN | apply below_al))).out.2 (HI.go (by repeat (first | exact Below.refl _ _ | apply Below.drew | apply below_drewN | apply below_al))).out.2.2.1).mono ?_; rintro e w6 ⟨rfl, hb⟩; replace HI := HI.go2 (by repeat (first | exact Below.refl _ _ | apply Below.drew | apply below_drewN | apply below_al)) hb; clear hb)
                  | (go_at_call_of 14 (Value.agg #[.bool ex, .slice A xs.length c, .bool r, .slice B ys.length d, .bool t]); refine (HFA.out _ (HI.go (by repeat (first | exact Below.refl _ _ | apply Below.drew | apply below_drewN | apply below_al))).out.2.1.1.1 (HI.go (by repeat (first | exact Below.refl _ _ | apply Below.drew | apply below_drewN | apply below_al))).out.2.1.1.2 (HI.go (by repeat (first | exact Below.refl _ _ | apply Below.drew | apply below_drewN | apply below_al))).out.2.2.1).mono ?_; rintro e w1 ⟨rfl, hb⟩; replace HI := HI.go2 (by repeat (first | exact Below.refl _ _ | apply Below.drew | apply below_drewN | apply below_al)) hb; clear hb; obtain ⟨⟨p1, p2, p3, p4, p5, p6⟩, ⟨q1, q2, q3, q4, q5, q6⟩⟩ := HI.out.1)
                  | (go_at_call_of 14 (Value.agg #[.bool fx, .slice C zs.length e, .bool u, .slice D vs.length f, .bool v]); refine (HFB.out _ (HI.go (by repeat (first | exact Below.refl _ _ | apply Below.drew | apply below_drewN | apply below_al))).out.2.1.2.1 (HI.go (by repeat (first | exact Below.refl _ _ | apply Below.drew | apply below_drewN | apply below_al))).out.2.1.2.2 (HI.go (by repeat (first | exact Below.refl _ _ | apply Below.drew | apply below_drewN | apply below_al))).out.2.2.1).mono ?_; rintro e w2 ⟨rfl, hb⟩; replace HI := HI.go2 (by repeat (first | exact Below.refl _ _ | apply Below.drew | apply below_drewN | apply below_al)) hb; clear hb; obtain ⟨⟨p1, p2, p3, p4, p5, p6⟩, ⟨q1, q2, q3, q4, q5, q6⟩⟩ := HI.out.1)
                  | (go_at_call 15; refine (rawake_any _ (HI.go (by repeat (first | exact Below.refl _ _ | apply Below.drew | apply below_drewN | apply below_al))).out.2.2.1).mono ?_; rintro e w9 ⟨rfl, hb⟩; replace HI := HI.go2 (by repeat (first | exact Below.refl _ _ | apply Below.drew | apply below_drewN | apply below_al)) hb; clear hb))
                go_ret
                exact ⟨rfl, (HI.go (by repeat (first | exact Below.refl _ _ | apply Below.drew | apply below_drewN | apply below_al))).out.2.2.2⟩
        · have hnB : (agE xs r ys t zs u vs v != 0) = true := by rw [bne_iff_ne]; exact h0
          clear HMEA h0 htt HQ
          generalize agE xs r ys t zs u vs v = ne at *
          generalize ((agZ xs r ys t zs u vs v).2 && (r && u)) = q at *
          generalize (agZ xs r ys t zs u vs v).2 = ok at *
          generalize (agZ xs r ys t zs u vs v).1 = L at *
          clear hsh h hz hg k kz kg h' hz' hg' k' kz' kg' hf hf' hsx hsy hsz hsv hlx hlz fa fb
          go_enter Tryd.func13, Tryd.ntmps13
          go_wp2_with (first
            | (go_at_call 32; refine (HAG.out _ (HI.go (by repeat (first | exact Below.refl _ _ | apply Below.drew | apply below_drewN | apply below_al))).out.2.1.1.1 (HI.go (by repeat (first | exact Below.refl _ _ | apply Below.drew | apply below_drewN | apply below_al))).out.2.1.1.2 (HI.go (by repeat (first | exact Below.refl _ _ | apply Below.drew | apply below_drewN | apply below_al))).out.2.1.2.1 (HI.go (by repeat (first | exact Below.refl _ _ | apply Below.drew | apply below_drewN | apply below_al))).out.2.1.2.2 (HI.go (by repeat (first | exact Below.refl _ _ | apply Below.drew | apply below_drewN | apply below_al))).out.2.2.1).mono ?_; rintro e w3 ⟨E, m, rfl, hr, hb⟩; replace HI := HI.go2 (by repeat (first | exact Below.refl _ _ | apply Below.drew | apply below_drewN | apply below_al)) hb; clear hb; have HD := At.rb2 (q := q) hr; have d1 := hr.1; have d2 := hr.2.1; clear hr; obtain ⟨⟨p1, p2, p3, p4, p5, p6⟩, ⟨q1, q2, q3, q4, q5, q6⟩⟩ := HI.out.1)
            | (go_at_call_of 16 (Value.agg #[.bool ex, .slice A xs.length c, .bool r, .slice B ys.length d, .bool t]); refine (HF1.out _ (HI.go (by repeat (first | exact Below.refl _ _ | apply Below.drew | apply below_drewN | apply below_al))).out.2.1.1.1 (HI.go (by repeat (first | exact Below.refl _ _ | apply Below.drew | apply below_drewN | apply below_al))).out.2.1.1.2 (HI.go (by repeat (first | exact Below.refl _ _ | apply Below.drew | apply below_drewN | apply below_al))).out.2.2.1).mono ?_; rintro e w4 ⟨rfl, hb⟩; replace HD := HD.go2 (by repeat (first | exact Below.refl _ _ | apply Below.drew | apply below_drewN | apply below_al)) hb; replace HI := HI.go2 (by repeat (first | exact Below.refl _ _ | apply Below.drew | apply below_drewN | apply below_al)) hb; clear hb; obtain ⟨⟨p1, p2, p3, p4, p5, p6⟩, ⟨q1, q2, q3, q4, q5, q6⟩⟩ := HI.out.1; obtain ⟨⟨s1, s2, s3, s4, s5⟩, -⟩ := HD.out)
            | (go_at_call_of 16 (Value.agg #[.bool fx, .slice C zs.length e, .bool u, .slice D vs.length f, .bool v]); refine (HF2.out _ (HI.go (by repeat (first | exact Below.refl _ _ | apply Below.drew | apply below_drewN | apply below_al))).out.2.1.2.1 (HI.go (by repeat (first | exact Below.refl _ _ | apply Below.drew | apply below_drewN | apply below_al))).out.2.1.2.2 (HI.go (by repeat (first | exact Below.refl _ _ | apply Below.drew | apply below_drewN | apply below_al))).out.2.2.1).mono ?_; rintro e w5 ⟨rfl, hb⟩; replace HD := HD.go2 (by repeat (first | exact Below.refl _ _ | apply Below.drew | apply below_drewN | apply below_al)) hb; replace HI := HI.go2 (by repeat (first | exact Below.refl _ _ | apply Below.drew | apply below_drewN | apply below_al)) hb; clear hb; obtain ⟨⟨p1, p2, p3, p4, p5, p6⟩, ⟨q1, q2, q3, q4, q5, q6⟩⟩ := HI.out.1; obtain ⟨⟨s1, s2, s3, s4, s5⟩, -⟩ := HD.out)
            | (go_at_call 27; refine (HHA.out _ _ _ (HD.go (by repeat (first | exact Below.refl _ _ | apply Below.drew | apply below_drewN | apply below_al))).out.2 (HI.go (by repeat (first | exact Below.refl _ _ | apply Below.drew | apply below_drewN | apply below_al))).out.2.2.1).mono ?_; rintro e w6 ⟨rfl, hb⟩; replace HI := HI.go2 (by repeat (first | exact Below.refl _ _ | apply Below.drew | apply below_drewN | apply below_al)) hb; clear hb)
            | (go_at_call_of 14 (Value.agg #[.bool ex, .slice A xs.length c, .bool r, .slice B ys.length d, .bool t]); refine (HFA.out _ (HI.go (by repeat (first | exact Below.refl _ _ | apply Below.drew | apply below_drewN | apply below_al))).out.2.1.1.1 (HI.go (by repeat (first | exact Below.refl _ _ | apply Below.drew | apply below_drewN | apply below_al))).out.2.1.1.2 (HI.go (by repeat (first | exact Below.refl _ _ | apply Below.drew | apply below_drewN | apply below_al))).out.2.2.1).mono ?_; rintro e w1 ⟨rfl, hb⟩; replace HI := HI.go2 (by repeat (first | exact Below.refl _ _ | apply Below.drew | apply below_drewN | apply below_al)) hb; clear hb; obtain ⟨⟨p1, p2, p3, p4, p5, p6⟩, ⟨q1, q2, q3, q4, q5, q6⟩⟩ := HI.out.1)
            | (go_at_call_of 14 (Value.agg #[.bool fx, .slice C zs.length e, .bool u, .slice D vs.length f, .bool v]); refine (HFB.out _ (HI.go (by repeat (first | exact Below.refl _ _ | apply Below.drew | apply below_drewN | apply below_al))).out.2.1.2.1 (HI.go (by repeat (first | exact Below.refl _ _ | apply Below.drew | apply below_drewN | apply below_al))).out.2.1.2.2 (HI.go (by repeat (first | exact Below.refl _ _ | apply Below.drew | apply below_drewN | apply below_al))).out.2.2.1).mono ?_; rintro e w2 ⟨rfl, hb⟩; replace HI := HI.go2 (by repeat (first | exact Below.refl _ _ | apply Below.drew | apply below_drewN | apply below_al)) hb; clear hb; obtain ⟨⟨p1, p2, p3, p4, p5, p6⟩, ⟨q1, q2, q3, q4, q5, q6⟩⟩ := HI.out.1)
            | (go_at_call 15; refine (rawake_any _ (HI.go (by repeat (first | exact Below.refl _ _ | apply Below.drew | apply below_drewN | apply below_al))).out.2.2.1).mono ?_; rintro e w9 ⟨rfl, hb⟩; replace HI := HI.go2 (by repeat (first | exact Below.refl _ _ | apply Below.drew | apply below_drewN | apply below_al)) hb; clear hb))
          go_ret
          exact ⟨rfl, (HI.go (by repeat (first | exact Below.refl _ _ | apply Below.drew | apply below_drewN | apply below_al))).out.2.2.2⟩
      · have hszI : (300 : Int) < (s.size : Int) := by omega
        unfold ruV at *
        clear hsh h hz hg k kz kg h' hz' hg' k' kz' kg' hf hf'
        go_enter Tryd.func13, Tryd.ntmps13
        go_wp2_with (first
          | (go_at_call_of 14 (Value.agg #[.bool ex, .slice A xs.length c, .bool r, .slice B ys.length d, .bool t]); refine (HFA.out _ (HI.go (by repeat (first | exact Below.refl _ _ | apply Below.drew | apply below_drewN | apply below_al))).out.2.1.1.1 (HI.go (by repeat (first | exact Below.refl _ _ | apply Below.drew | apply below_drewN | apply below_al))).out.2.1.1.2 (HI.go (by repeat (first | exact Below.refl _ _ | apply Below.drew | apply below_drewN | apply below_al))).out.2.2.1).mono ?_; rintro e w1 ⟨rfl, hb⟩; replace HI := HI.go2 (by repeat (first | exact Below.refl _ _ | apply Below.drew | apply below_drewN | apply below_al)) hb; clear hb; obtain ⟨⟨p1, p2, p3, p4, p5, p6⟩, ⟨q1, q2, q3, q4, q5, q6⟩⟩ := HI.out.1)
          | (go_at_call_of 14 (Value.agg #[.bool fx, .slice C zs.length e, .bool u, .slice D vs.length f, .bool v]); refine (HFB.out _ (HI.go (by repeat (first | exact Below.refl _ _ | apply Below.drew | apply below_drewN | apply below_al))).out.2.1.2.1 (HI.go (by repeat (first | exact Below.refl _ _ | apply Below.drew | apply below_drewN | apply below_al))).out.2.1.2.2 (HI.go (by repeat (first | exact Below.refl _ _ | apply Below.drew | apply below_drewN | apply below_al))).out.2.2.1).mono ?_; rintro e w2 ⟨rfl, hb⟩; replace HI := HI.go2 (by repeat (first | exact Below.refl _ _ | apply Below.drew | apply below_drewN | apply below_al)) hb; clear hb; obtain ⟨⟨p1, p2, p3, p4, p5, p6⟩, ⟨q1, q2, q3, q4, q5, q6⟩⟩ := HI.out.1)
          | (go_at_call 15; refine (rawake_any _ (HI.go (by repeat (first | exact Below.refl _ _ | apply Below.drew | apply below_drewN | apply below_al))).out.2.2.1).mono ?_; rintro e w9 ⟨rfl, hb⟩; replace HI := HI.go2 (by repeat (first | exact Below.refl _ _ | apply Below.drew | apply below_drewN | apply below_al)) hb; clear hb))
        go_ret
        exact ⟨rfl, (HI.go (by repeat (first | exact Below.refl _ _ | apply Below.drew | apply below_drewN | apply below_al))).out.2.2.2⟩
end Go.Proofs.YtidjmbmnfnnleaaDoor
