/-
  Rules: the walk of the reference's Agree where nothing is too large.
-/
import Derived.Test.YtidjmbmnfnnleaaDoorA7
namespace Go.Proofs.YtidjmbmnfnnleaaDoor
set_option linter.unusedSimpArgs false
set_option linter.unusedVariables false
open Go.RowKit
open Pm

theorem capR_any (p x : ByteArray) (w : World) (h1 : p.size ≤ 9223372036854775807) (h2 : x.size ≤ 9223372036854775807) :
    Calls Tryd.prog 52 #[.string p, .string x] w fun e w' => ∃ (y : ByteArray) (b : Bool), e = .returned (.tuple #[.string y, .bool b]) ∧ w = w' :=
  (rcapture_any p x w h1 h2).mono fun e w' ⟨a, b⟩ => ⟨_, _, a, b⟩


set_option maxHeartbeats 32000000 in
set_option maxRecDepth 100000 in
theorem ragree_good (ex : Bool) (A : Option Addr) (c : Nat) (xs : List ByteArray) (r : Bool) (B : Option Addr) (d : Nat) (ys : List ByteArray) (t : Bool) (fx : Bool) (C : Option Addr) (e : Nat) (zs : List ByteArray) (u : Bool) (D : Option Addr) (f : Nat) (vs : List ByteArray) (v : Bool) (w : World) (h : RT w A c xs) (k : RT w B d ys) (h' : RT w C e zs) (k' : RT w D f vs) (hm : ML w)
    (bx : sumB xs ≤ 300) (bY : sumB ys ≤ 300) (bz : sumB zs ≤ 300) (bv : sumB vs ≤ 300) (hlx : xs.length ≤ 5000) (hlz : zs.length ≤ 5000) (hyes : agG xs r ys t zs u vs v = true) :
    Calls Tryd.prog 33 #[ruV ex A c xs r B d ys t, ruV fx C e zs u D f vs v] w (RetAg w xs r ys t zs u vs v) := by
  have hsx : ∀ x ∈ xs, x.size ≤ 5000 := fun x hx => by have := sum_mem hx; omega
  have hsy : ∀ x ∈ ys, x.size ≤ 5000 := fun x hx => by have := sum_mem hx; omega
  have hsz : ∀ x ∈ zs, x.size ≤ 5000 := fun x hx => by have := sum_mem hx; omega
  have hsv : ∀ x ∈ vs, x.size ≤ 5000 := fun x hx => by have := sum_mem hx; omega
  have HI := PRA.enter h k h' k' hm ex r t fx u v 26 24
  have HK1 := Lib.hid (fun w h k m => rruleCheck_any ex A B c d xs ys r t w h k m hsx hsy)
  have HK2 := Lib.hid (fun w h k m => rruleCheck_any fx C D e f zs vs u v w h k m hsz hsv)
  have HME := Lib.hid (fun w h l => (rmeet_any A C c e xs zs r u w h l (five9 hsx) (five9 hsz)).mono fun _ _ h => RetM.two h)
  have hx1 := h.1
  have hx2 := h.2.1
  have hy1 := k.1
  have hy2 := k.2.1
  have hz1 := h'.1
  have hz2 := h'.2.1
  have hv1 := k'.1
  have hv2 := k'.2.1
  clear h k h' k' hm
  obtain ⟨h12, h3, hce1, hce2⟩ := ag_parts.1 hyes
  obtain ⟨h1, h2⟩ := chk_zero.1 h12
  rw [h1] at HK1
  rw [h2] at HK2
  rw [h3] at HME
  simp only [if_true] at HME
  have HA0 := Lib.hid (And.intro (ag_start hyes) (ag_size hyes bx bY bz bv))
  have HGOOD : Hid (∀ e' w', RetA w (eqT (meetL xs zs) (carL xs r (meetL xs zs) (r && u) ys t) (carL zs u (meetL xs zs) (r && u) vs v)).1 ((eqT (meetL xs zs) (carL xs r (meetL xs zs) (r && u) ys t) (carL zs u (meetL xs zs) (r && u) vs v)).2 && (r && u)) (eqT (meetL xs zs) (carL xs r (meetL xs zs) (r && u) ys t) (carL zs u (meetL xs zs) (r && u) vs v)).2 0 e' w' → RetAg w xs r ys t zs u vs v e' w') := Lib.hid (fun e' w' h => by
    unfold RetAg agZ agE
    rw [if_pos hyes, if_neg (by simp [h12]), if_neg (by simp [h3]), if_neg (by simp [hce1]), hce2]
    exact h)
  have HNA : Hid (∀ M n l fl sl q w, AG xs r ys t zs u vs v q l fl sl → SZ 2400 l fl sl → RT w A c xs → RT w B d ys → RT w M n l → ML w → Calls Tryd.prog 26 #[ruV ex A c xs r B d ys t, .agg #[.slice M l.length n, .bool q]] w (RetN w l q fl q true 0)) := Lib.hid (fun M n l fl sl q w hA hZ a1 a2 a3 a4 =>
    rnar_state ex A c xs r B d ys t M n l fl q w a1 a2 a3 a4 hsx hsy (fun z hz => by have := hZ.le.1 z hz; omega) hlx (by have := (check_zero hA.parts.1).2.1; omega) h1 hA.1.1 hA.2.1.1 hA.2.2.1.1 hA.2.2.2.1)
  have HNB : Hid (∀ M n l fl sl q w, AG xs r ys t zs u vs v q l fl sl → SZ 2400 l fl sl → RT w C e zs → RT w D f vs → RT w M n l → ML w → Calls Tryd.prog 26 #[ruV fx C e zs u D f vs v, .agg #[.slice M l.length n, .bool q]] w (RetN w l q sl q true 0)) := Lib.hid (fun M n l fl sl q w hA hZ a1 a2 a3 a4 =>
    rnar_state fx C e zs u D f vs v M n l sl q w a1 a2 a3 a4 hsz hsv (fun z hz => by have := hZ.le.1 z hz; omega) hlz (by have := (check_zero hA.parts.1).2.1; omega) h2 hA.1.2 hA.2.1.2 hA.2.2.1.2 hA.2.2.2.2)
  unfold RetN ruV at HNA HNB
  unfold RetA at HGOOD
  unfold ruV at *
  have HT : Hid (∀ l fl sl : List ByteArray, (fl.length = sl.length → eqz (countB stB fl + 1) l fl sl = eqT l fl sl) ∧ (fl.length ≠ sl.length → ([], false) = eqT l fl sl)) := Lib.hid (fun l fl sl => ⟨fun h => by unfold eqT; rw [if_pos h], fun h => by unfold eqT; rw [if_neg h]⟩)
  have HF0 := Lib.hid (HT.out (meetL xs zs) (carL xs r (meetL xs zs) (r && u) ys t) (carL zs u (meetL xs zs) (r && u) vs v))
  clear HT hsx hsy hsz hsv hlx hlz h1 h2 h12 h3 hce1 hce2 hyes bx bY bz bv
  generalize eqT (meetL xs zs) (carL xs r (meetL xs zs) (r && u) ys t) (carL zs u (meetL xs zs) (r && u) vs v) = fin at *
  obtain ⟨us, ok⟩ := fin
  generalize carL xs r (meetL xs zs) (r && u) ys t = ll at *
  generalize carL zs u (meetL xs zs) (r && u) vs v = rl at *
  generalize meetL xs zs = mm at *
  generalize hmr : (r && u) = mr at *
  clear hmr
  go_enter Tryd.func33, Tryd.ntmps33
  go_wp2_with (first
    | (go_at_call_of 22 (Value.agg #[.bool ex, .slice A xs.length c, .bool r, .slice B ys.length d, .bool t]); refine (HK1.out _ (HI.go (by repeat (first | exact Below.refl _ _ | apply Below.drew | apply below_drewN | apply below_al))).out.2.2.1.1.1 (HI.go (by repeat (first | exact Below.refl _ _ | apply Below.drew | apply below_drewN | apply below_al))).out.2.2.1.1.2 (HI.go (by repeat (first | exact Below.refl _ _ | apply Below.drew | apply below_drewN | apply below_al))).out.2.2.2.1).mono ?_; rintro e w1 ⟨rfl, hb⟩; replace HI := HI.go2 (by repeat (first | exact Below.refl _ _ | apply Below.drew | apply below_drewN | apply below_al)) hb; clear hb; obtain ⟨⟨s0, s1, s2, s3, s4⟩, ⟨⟨p1, p2, p3, p4, p5, p6⟩, ⟨q1, q2, q3, q4, q5, q6⟩⟩, -⟩ := HI.out)
    | (go_at_call_of 22 (Value.agg #[.bool fx, .slice C zs.length e, .bool u, .slice D vs.length f, .bool v]); refine (HK2.out _ (HI.go (by repeat (first | exact Below.refl _ _ | apply Below.drew | apply below_drewN | apply below_al))).out.2.2.1.2.1 (HI.go (by repeat (first | exact Below.refl _ _ | apply Below.drew | apply below_drewN | apply below_al))).out.2.2.1.2.2 (HI.go (by repeat (first | exact Below.refl _ _ | apply Below.drew | apply below_drewN | apply below_al))).out.2.2.2.1).mono ?_; rintro e w2 ⟨rfl, hb⟩; replace HI := HI.go2 (by repeat (first | exact Below.refl _ _ | apply Below.drew | apply below_drewN | apply below_al)) hb; clear hb; obtain ⟨⟨s0, s1, s2, s3, s4⟩, ⟨⟨p1, p2, p3, p4, p5, p6⟩, ⟨q1, q2, q3, q4, q5, q6⟩⟩, -⟩ := HI.out)
    | (go_at_call 46; refine (HME.out _ (HI.go (by repeat (first | exact Below.refl _ _ | apply Below.drew | apply below_drewN | apply below_al))).out.2.2.1.1.1 (HI.go (by repeat (first | exact Below.refl _ _ | apply Below.drew | apply below_drewN | apply below_al))).out.2.2.1.2.1).mono ?_; rintro e w3 ⟨M, n, rfl, hr, hb⟩; replace HI := HI.go2 (by repeat (first | exact Below.refl _ _ | apply Below.drew | apply below_drewN | apply below_al)) hb; clear hb; have hgm := HI.out.1.2.2.2.2; have HM : At (PBx w3.heap.size M mm n mr) _ := At.rb2 (q := mr) hr; have m1 := hr.1; have m2 := hr.2.1; clear hr; obtain ⟨⟨s0, s1, s2, s3, s4⟩, ⟨⟨p1, p2, p3, p4, p5, p6⟩, ⟨q1, q2, q3, q4, q5, q6⟩⟩, -⟩ := HI.out))
  go_loopg [17] (countB stB ll + 1) (fun g s17 wx => ∃ (M : Option Addr) (n : Nat) (l fl sl : List ByteArray), Hid ((fl.length = sl.length → eqz g l fl sl = (us, ok)) ∧ (fl.length ≠ sl.length → ([], false) = (us, ok))) ∧ Hid (countB stB fl < g) ∧ Hid (AG xs r ys t zs u vs v mr l fl sl ∧ SZ 2400 l fl sl) ∧ At (PRA w ex A c xs r B d ys t fx C e zs u D f vs v) wx ∧ At (PBx w3.heap.size M l n mr) wx)
  case atStart => exact ⟨M, n, mm, ll, rl, HF0, Lib.hid (Nat.lt_succ_self _), HA0, HI.go (by repeat (first | exact Below.refl _ _ | apply Below.drew | apply below_drewN | apply below_al)), HM⟩
  case round =>
    clear HI HM HA0 HF0 m1 m2
    obtain ⟨M, n, l, fl, sl, HF, HG, HA, HJ, HL⟩ := hrel
    obtain ⟨⟨s0, s1, s2, s3, s4⟩, ⟨⟨p1, p2, p3, p4, p5, p6⟩, ⟨q1, q2, q3, q4, q5, q6⟩⟩, -⟩ := HJ.out
    obtain ⟨⟨m3, m4, m5, m6, m7⟩, -⟩ := HL.out
    have hl1 := HL.out.2.1
    have hl2 := HL.out.2.2.1
    have hl12 := (check_zero HA.out.1.parts.1).2.1
    have hf12 := (check_zero HA.out.1.parts.2.1).2.1
    have hs12 := (check_zero HA.out.1.parts.2.2).2.1
    have HL0 := Lib.hid (check_zero HA.out.1.parts.1).1
    have HN1 := Lib.hid (fun w => HNA.out M n l fl sl mr w HA.out.1 HA.out.2)
    have HN2 := Lib.hid (fun w => HNB.out M n l fl sl mr w HA.out.1 HA.out.2)
    cases gk with
    | zero => exact absurd HG.out (by omega)
    | succ g' =>
    by_cases hlen : fl.length = sl.length
    · have hlB : ((fl.length : Int) != (sl.length : Int)) = false := by rw [hlen]; simp
      have HLS := Lib.hid hlen
      have HES := Lib.hid (HA.out.1.es hlen)
      clear hlen
      go_wp2_with (first
        | (go_at_call_of 26 (Value.agg #[.bool ex, .slice A xs.length c, .bool r, .slice B ys.length d, .bool t]); refine (HN1.out _ (HJ.go (by repeat (first | exact Below.refl _ _ | apply Below.drew | apply below_drewN | apply below_al))).out.2.2.1.1.1 (HJ.go (by repeat (first | exact Below.refl _ _ | apply Below.drew | apply below_drewN | apply below_al))).out.2.2.1.1.2 (HL.go (by repeat (first | exact Below.refl _ _ | apply Below.drew | apply below_drewN | apply below_al))).out.2 (HJ.go (by repeat (first | exact Below.refl _ _ | apply Below.drew | apply below_drewN | apply below_al))).out.2.2.2.1).mono ?_; rintro e w4 ⟨E, k1, F, k2, rfl, hr, hr2, hb⟩; replace HL := HL.go2 (by repeat (first | exact Below.refl _ _ | apply Below.drew | apply below_drewN | apply below_al)) hb; replace HJ := HJ.go2 (by repeat (first | exact Below.refl _ _ | apply Below.drew | apply below_drewN | apply below_al)) hb; have HX := At.prb (ex := false) (l := mr) (q := mr) hr hr2; have d1 := hr.1; have d2 := hr.2.1; have d3 := hr2.1; have d4 := hr2.2.1; clear hr hr2; obtain ⟨⟨s0, s1, s2, s3, s4⟩, ⟨⟨p1, p2, p3, p4, p5, p6⟩, ⟨q1, q2, q3, q4, q5, q6⟩⟩, -⟩ := HJ.out; obtain ⟨⟨m3, m4, m5, m6, m7⟩, -⟩ := HL.out)
        | (go_at_call_of 26 (Value.agg #[.bool fx, .slice C zs.length e, .bool u, .slice D vs.length f, .bool v]); refine (HN2.out _ (HJ.go (by repeat (first | exact Below.refl _ _ | apply Below.drew | apply below_drewN | apply below_al))).out.2.2.1.2.1 (HJ.go (by repeat (first | exact Below.refl _ _ | apply Below.drew | apply below_drewN | apply below_al))).out.2.2.1.2.2 (HL.go (by repeat (first | exact Below.refl _ _ | apply Below.drew | apply below_drewN | apply below_al))).out.2 (HJ.go (by repeat (first | exact Below.refl _ _ | apply Below.drew | apply below_drewN | apply below_al))).out.2.2.2.1).mono ?_; rintro e w5 ⟨G, k3, H, k4, rfl, hr, hr2, hb⟩; replace HL := HL.go2 (by repeat (first | exact Below.refl _ _ | apply Below.drew | apply below_drewN | apply below_al)) hb; replace HJ := HJ.go2 (by repeat (first | exact Below.refl _ _ | apply Below.drew | apply below_drewN | apply below_al)) hb; replace HX := HX.go2 (by repeat (first | exact Below.refl _ _ | apply Below.drew | apply below_drewN | apply below_al)) hb; have HY := At.prb (ex := false) (l := mr) (q := mr) hr hr2; have g1 := hr.1; have g2 := hr.2.1; have g3 := hr2.1; have g4 := hr2.2.1; clear hr hr2; obtain ⟨⟨s0, s1, s2, s3, s4⟩, ⟨⟨p1, p2, p3, p4, p5, p6⟩, ⟨q1, q2, q3, q4, q5, q6⟩⟩, -⟩ := HJ.out; obtain ⟨⟨m3, m4, m5, m6, m7⟩, -⟩ := HL.out; obtain ⟨⟨d5, d6, d7, d8, d9, d10⟩, -⟩ := HX.out)
        | fail)
      go_loopg [17, 18, 19, 91] fl.length (fun g2 s17 s18 s19 s91 wy => ∃ i : Nat, i + g2 = fl.length ∧ s91 = .int .i64 i ∧ (∃ nn : Nat, nn ≤ i ∧ s17 = .int .i64 nn ∧ Hid (nn = countB stB (fl.take i))) ∧ s18 = .string ⟨#[]⟩ ∧ s19 = .bool false ∧ Hid (fl.take i = sl.take i) ∧ At (PRA w ex A c xs r B d ys t fx C e zs u D f vs v) wy ∧ At (PBx w3.heap.size M l n mr) wy ∧ At (PRB false l mr fl mr E k1 F k2 w4.heap.size) wy ∧ At (PRB false l mr sl mr G k3 H k4 w5.heap.size) wy)
      case atStart => exact ⟨0, by omega, rfl, ⟨0, Nat.le_refl _, rfl, Lib.hid rfl⟩, rfl, rfl, Lib.hid rfl, HJ.go (by repeat (first | exact Below.refl _ _ | apply Below.drew | apply below_drewN | apply below_al)), HL.go (by repeat (first | exact Below.refl _ _ | apply Below.drew | apply below_drewN | apply below_al)), HX.go (by repeat (first | exact Below.refl _ _ | apply Below.drew | apply below_drewN | apply below_al)), HY⟩
      case round =>
        clear HJ HL HX HY
        obtain ⟨i, hig, rfl, ⟨nn, hni, rfl, HN⟩, rfl, rfl, HTK, HJ, HL, HX, HY⟩ := hrel
        obtain ⟨⟨s0, s1, s2, s3, s4⟩, ⟨⟨p1, p2, p3, p4, p5, p6⟩, ⟨q1, q2, q3, q4, q5, q6⟩⟩, -⟩ := HJ.out
        obtain ⟨⟨m3, m4, m5, m6, m7⟩, -⟩ := HL.out
        obtain ⟨⟨d5, d6, d7, d8, d9, d10⟩, -⟩ := HX.out
        obtain ⟨⟨e5, e6, e7, e8, e9, e10⟩, -⟩ := HY.out
        by_cases hlt : i < fl.length
        · have hlt2 : i < sl.length := by rw [← HLS.out]; exact hlt
          obtain ⟨g2, rfl⟩ : ∃ g2, gk = g2 + 1 := ⟨gk - 1, by omega⟩
          obtain ⟨x, hx⟩ : ∃ x, fl[i]? = some x := ⟨_, List.getElem?_eq_getElem hlt⟩
          obtain ⟨y, hy⟩ : ∃ y, sl[i]? = some y := ⟨_, List.getElem?_eq_getElem hlt2⟩
          obtain ⟨b1, o1, rfl, hb1, hc1⟩ := HX.out.2.2.2.2 (by omega)
          obtain ⟨b2, o2, rfl, hb2, hc2⟩ := HY.out.2.2.2.2 (by omega)
          have hcx := hc1 i x hx
          have hcy := hc2 i y hy
          have hxz : x.size ≤ 2400 := HA.out.2.le.2.1 x (List.mem_of_getElem? hx)
          have hyz : y.size ≤ 2400 := HA.out.2.le.2.2 y (List.mem_of_getElem? hy)
          have hpx := HES.out.1.2.1 x (List.mem_of_getElem? hx)
          have hpy := HES.out.1.2.2 y (List.mem_of_getElem? hy)
          have HXX := Lib.hid hx
          have HYY := Lib.hid hy
          have HSX1 := Lib.hid (fun w => starR_any hpx w (by omega))
          have HSY1 := Lib.hid (fun w => starR_any hpy w (by omega))
          clear hc1 hc2 hx hy hb1 hb2
          by_cases he : x = y
          · have heB : (x.toList == y.toList) = true := by rw [he]; simp
            have HTK2 : Hid (fl.take (i + 1) = sl.take (i + 1)) := Lib.hid (by rw [List.take_add_one, List.take_add_one, HTK.out, HXX.out, HYY.out, he])
            clear he hpx hpy
            cases hs : stB x with
            | true =>
              have HN2 : Hid (nn + 1 = countB stB (fl.take (i + 1))) := Lib.hid (by rw [take_cnt HXX.out, if_pos hs, HN.out])
              go_wp2_with (go_at_call 51; refine (HSX1.out _).mono ?_; rintro e w' ⟨yy, rfl, rfl⟩)
              go_roundg g2
              case measure => omega
              case rel => exact ⟨i + 1, by omega, by go_num, ⟨nn + 1, by omega, by go_num, HN2⟩, rfl, rfl, HTK2, HJ, HL, HX, HY⟩
            | false =>
              have HN2 : Hid (nn = countB stB (fl.take (i + 1))) := Lib.hid (by rw [take_cnt HXX.out, if_neg (by rw [hs]; decide), HN.out]; rfl)
              go_wp2_with (go_at_call 51; refine (HSX1.out _).mono ?_; rintro e w' ⟨yy, rfl, rfl⟩)
              go_roundg g2
              case measure => omega
              case rel => exact ⟨i + 1, by omega, by go_num, ⟨nn, by omega, rfl, HN2⟩, rfl, rfl, HTK2, HJ, HL, HX, HY⟩
          · have heB := txt_ne he
            have HSTP : Hid (stp fl sl = some (nn, x, y)) := Lib.hid (by rw [stp_at HTK.out HXX.out HYY.out he, HN.out])
            clear he
            cases hsx : stB x with
            | true =>
              cases hsy : stB y with
              | true =>
                have hd : detO x y = false := by unfold detO; rw [if_pos hsx, hsy]; rfl
                clear hpx hpy
                have hend := (eqz_bad (n := g') (l := l) HSTP.out hd).symm.trans (HF.out.1 HLS.out)
                obtain ⟨rfl, rfl⟩ := Prod.mk.inj hend
                clear hend hd
                go_wp2_with (first
                  | (go_at_call_of 51 (Value.string x); refine (HSX1.out _).mono ?_; rintro e w' ⟨yy, rfl, rfl⟩)
                  | (go_at_call_of 51 (Value.string y); refine (HSY1.out _).mono ?_; rintro e w' ⟨yy, rfl, rfl⟩)
                  | (go_at_call 52; refine (capR_any x y _ (by omega) (by omega)).mono ?_; rintro e w' ⟨yy, bb, rfl, rfl⟩))
                refine bodyPost_ret (v := .tuple #[.agg #[.slice none 0 0, .bool false], .bool false, .int .i64 0]) (by simp [results, Tryd.results33, go_sem, s0, s1, s2, s3, s4]) rfl (HGOOD.out _ _ ⟨none, 0, rfl, RT.nil _ _ _ (by omega), ?_⟩)
                exact below_box HJ.out.2.2.2.2 (by omega) _ _
              | false =>
                have hd0 : detO x y = mpOk x y := by unfold detO; rw [if_pos hsx, hsy]; rfl
                have hdc : detC x y = mpCap x y := by unfold detC; rw [if_pos hsx, if_neg (by rw [hsy]; decide)]
                have HCS := Lib.hid (fun w => cap_state hpx hsx hpy hsy w (by omega) (by omega))
                clear hpx hpy
                cases ho : mpOk x y with
                | false =>
                  have hd : detO x y = false := by rw [hd0, ho]
                  have HCP := Lib.hid (fun w => (HCS.out w).2 ho)
                  clear hd0 ho hdc HCS
                  have hend := (eqz_bad (n := g') (l := l) HSTP.out hd).symm.trans (HF.out.1 HLS.out)
                  obtain ⟨rfl, rfl⟩ := Prod.mk.inj hend
                  clear hend hd
                  go_wp2_with (first
                    | (go_at_call_of 51 (Value.string x); refine (HSX1.out _).mono ?_; rintro e w' ⟨yy, rfl, rfl⟩)
                    | (go_at_call_of 51 (Value.string y); refine (HSY1.out _).mono ?_; rintro e w' ⟨yy, rfl, rfl⟩)
                    | (go_at_call 52; refine (HCP.out _).mono ?_; rintro e w' ⟨yy, rfl, rfl⟩))
                  refine bodyPost_ret (v := .tuple #[.agg #[.slice none 0 0, .bool false], .bool false, .int .i64 0]) (by simp [results, Tryd.results33, go_sem, s0, s1, s2, s3, s4]) rfl (HGOOD.out _ _ ⟨none, 0, rfl, RT.nil _ _ _ (by omega), ?_⟩)
                  exact below_box HJ.out.2.2.2.2 (by omega) _ _
                | true =>
                  have hd : detO x y = true := by rw [hd0, ho]
                  have HCP := Lib.hid (fun w => (HCS.out w).1 ho)
                  clear hd0 ho HCS
                  have HF2 : Hid ((fixB (detC x y) nn fl).length = (fixB (detC x y) nn sl).length → eqz g' (fixB (detC x y) nn l) (fixB (detC x y) nn fl) (fixB (detC x y) nn sl) = (us, ok)) := Lib.hid (fun _ => (eqz_step (n := g') (l := l) HSTP.out hd).symm.trans (HF.out.1 HLS.out))
                  obtain ⟨hcc, hkk, _⟩ := HES.out.lt HSTP.out hd
                  have HA2 := Lib.hid (And.intro (HA.out.1.fix nn hcc) (HA.out.2.fix HES.out HSTP.out hd).1)
                  have HG2 : Hid (countB stB (fixB (detC x y) nn fl) < g') := Lib.hid (by have := (HES.out.fix hcc hkk).2; have := HG.out; omega)
                  have hcz := (HA.out.2.fix HES.out HSTP.out hd).2
                  have HFX := Lib.hid (fun w h => rfix_any M n l mr nn (detC x y) w h HL0.out (by omega) (by omega) (fun z hz => by have := HA.out.2.le.1 z hz; omega) (by omega) (parts_all (check_zero HA.out.1.parts.1).2.2))
                  have HLE : Hid ((fixB (detC x y) nn fl).length = (fixB (detC x y) nn sl).length) := Lib.hid (by rw [fix_len, fix_len, HLS.out])
                  unfold RetP1 at HFX
                  rw [← hdc] at HCP
                  clear hcc hkk hd hdc
                  generalize fixB (detC x y) nn l = l' at *
                  generalize fixB (detC x y) nn fl = f' at *
                  generalize fixB (detC x y) nn sl = s' at *
                  generalize detC x y = cap at *
                  go_wp2_with (first
                    | (go_at_call_of 51 (Value.string x); refine (HSX1.out _).mono ?_; rintro e w' ⟨yy, rfl, rfl⟩)
                    | (go_at_call_of 51 (Value.string y); refine (HSY1.out _).mono ?_; rintro e w' ⟨yy, rfl, rfl⟩)
                    | (go_at_call 52; refine (HCP.out _).mono ?_; rintro e w' ⟨rfl, rfl⟩)
                    | (go_at_call 53; refine (HFX.out _ (HL.go (by repeat (first | exact Below.refl _ _ | apply Below.drew | apply below_drewN | apply below_al))).out.2).mono ?_; rintro e w7 ⟨C1, n1, rfl, hr, hb⟩; replace HJ := HJ.go2 (by repeat (first | exact Below.refl _ _ | apply Below.drew | apply below_drewN | apply below_al)) hb; replace HL := HL.go2 (by repeat (first | exact Below.refl _ _ | apply Below.drew | apply below_drewN | apply below_al)) hb; have HR := Lib.hid hr; have i1 := hr.1; have i2 := hr.2.1; clear hr hb; obtain ⟨⟨s0, s1, s2, s3, s4⟩, ⟨⟨p1, p2, p3, p4, p5, p6⟩, ⟨q1, q2, q3, q4, q5, q6⟩⟩, -⟩ := HJ.out; obtain ⟨⟨m3, m4, m5, m6, m7⟩, -⟩ := HL.out))
                  go_roundg g'
                  case measure => omega
                  case rel => exact ⟨C1, n1, l', f', s', Lib.hid ⟨HF2.out, fun h => absurd HLE.out h⟩, HG2, HA2, PRA.far HJ HL.out.1 hgm _ _, PBx.set HL HR.out⟩
            | false =>
              cases hsy : stB y with
              | false =>
                have hd : detO x y = false := by unfold detO; rw [if_neg (by rw [hsx]; decide), hsy]; rfl
                clear hpx hpy
                have hend := (eqz_bad (n := g') (l := l) HSTP.out hd).symm.trans (HF.out.1 HLS.out)
                obtain ⟨rfl, rfl⟩ := Prod.mk.inj hend
                clear hend hd
                go_wp2_with (first
                  | (go_at_call_of 51 (Value.string x); refine (HSX1.out _).mono ?_; rintro e w' ⟨yy, rfl, rfl⟩)
                  | (go_at_call_of 51 (Value.string y); refine (HSY1.out _).mono ?_; rintro e w' ⟨yy, rfl, rfl⟩)
                  | (go_at_call 52; refine (capR_any y x _ (by omega) (by omega)).mono ?_; rintro e w' ⟨yy, bb, rfl, rfl⟩))
                refine bodyPost_ret (v := .tuple #[.agg #[.slice none 0 0, .bool false], .bool false, .int .i64 0]) (by simp [results, Tryd.results33, go_sem, s0, s1, s2, s3, s4]) rfl (HGOOD.out _ _ ⟨none, 0, rfl, RT.nil _ _ _ (by omega), ?_⟩)
                exact below_box HJ.out.2.2.2.2 (by omega) _ _
              | true =>
                have hd0 : detO x y = mpOk y x := by unfold detO; rw [if_neg (by rw [hsx]; decide), hsy]; rfl
                have hdc : detC x y = mpCap y x := by unfold detC; rw [if_neg (by rw [hsx]; decide)]
                have HCS := Lib.hid (fun w => cap_state hpy hsy hpx hsx w (by omega) (by omega))
                clear hpx hpy
                cases ho : mpOk y x with
                | false =>
                  have hd : detO x y = false := by rw [hd0, ho]
                  have HCP := Lib.hid (fun w => (HCS.out w).2 ho)
                  clear hd0 ho hdc HCS
                  have hend := (eqz_bad (n := g') (l := l) HSTP.out hd).symm.trans (HF.out.1 HLS.out)
                  obtain ⟨rfl, rfl⟩ := Prod.mk.inj hend
                  clear hend hd
                  go_wp2_with (first
                    | (go_at_call_of 51 (Value.string x); refine (HSX1.out _).mono ?_; rintro e w' ⟨yy, rfl, rfl⟩)
                    | (go_at_call_of 51 (Value.string y); refine (HSY1.out _).mono ?_; rintro e w' ⟨yy, rfl, rfl⟩)
                    | (go_at_call 52; refine (HCP.out _).mono ?_; rintro e w' ⟨yy, rfl, rfl⟩))
                  refine bodyPost_ret (v := .tuple #[.agg #[.slice none 0 0, .bool false], .bool false, .int .i64 0]) (by simp [results, Tryd.results33, go_sem, s0, s1, s2, s3, s4]) rfl (HGOOD.out _ _ ⟨none, 0, rfl, RT.nil _ _ _ (by omega), ?_⟩)
                  exact below_box HJ.out.2.2.2.2 (by omega) _ _
                | true =>
                  have hd : detO x y = true := by rw [hd0, ho]
                  have HCP := Lib.hid (fun w => (HCS.out w).1 ho)
                  clear hd0 ho HCS
                  have HF2 : Hid ((fixB (detC x y) nn fl).length = (fixB (detC x y) nn sl).length → eqz g' (fixB (detC x y) nn l) (fixB (detC x y) nn fl) (fixB (detC x y) nn sl) = (us, ok)) := Lib.hid (fun _ => (eqz_step (n := g') (l := l) HSTP.out hd).symm.trans (HF.out.1 HLS.out))
                  obtain ⟨hcc, hkk, _⟩ := HES.out.lt HSTP.out hd
                  have HA2 := Lib.hid (And.intro (HA.out.1.fix nn hcc) (HA.out.2.fix HES.out HSTP.out hd).1)
                  have HG2 : Hid (countB stB (fixB (detC x y) nn fl) < g') := Lib.hid (by have := (HES.out.fix hcc hkk).2; have := HG.out; omega)
                  have hcz := (HA.out.2.fix HES.out HSTP.out hd).2
                  have HFX := Lib.hid (fun w h => rfix_any M n l mr nn (detC x y) w h HL0.out (by omega) (by omega) (fun z hz => by have := HA.out.2.le.1 z hz; omega) (by omega) (parts_all (check_zero HA.out.1.parts.1).2.2))
                  have HLE : Hid ((fixB (detC x y) nn fl).length = (fixB (detC x y) nn sl).length) := Lib.hid (by rw [fix_len, fix_len, HLS.out])
                  unfold RetP1 at HFX
                  rw [← hdc] at HCP
                  clear hcc hkk hd hdc
                  generalize fixB (detC x y) nn l = l' at *
                  generalize fixB (detC x y) nn fl = f' at *
                  generalize fixB (detC x y) nn sl = s' at *
                  generalize detC x y = cap at *
                  go_wp2_with (first
                    | (go_at_call_of 51 (Value.string x); refine (HSX1.out _).mono ?_; rintro e w' ⟨yy, rfl, rfl⟩)
                    | (go_at_call_of 51 (Value.string y); refine (HSY1.out _).mono ?_; rintro e w' ⟨yy, rfl, rfl⟩)
                    | (go_at_call 52; refine (HCP.out _).mono ?_; rintro e w' ⟨rfl, rfl⟩)
                    | (go_at_call 53; refine (HFX.out _ (HL.go (by repeat (first | exact Below.refl _ _ | apply Below.drew | apply below_drewN | apply below_al))).out.2).mono ?_; rintro e w7 ⟨C1, n1, rfl, hr, hb⟩; replace HJ := HJ.go2 (by repeat (first | exact Below.refl _ _ | apply Below.drew | apply below_drewN | apply below_al)) hb; replace HL := HL.go2 (by repeat (first | exact Below.refl _ _ | apply Below.drew | apply below_drewN | apply below_al)) hb; have HR := Lib.hid hr; have i1 := hr.1; have i2 := hr.2.1; clear hr hb; obtain ⟨⟨s0, s1, s2, s3, s4⟩, ⟨⟨p1, p2, p3, p4, p5, p6⟩, ⟨q1, q2, q3, q4, q5, q6⟩⟩, -⟩ := HJ.out; obtain ⟨⟨m3, m4, m5, m6, m7⟩, -⟩ := HL.out))
                  go_roundg g'
                  case measure => omega
                  case rel => exact ⟨C1, n1, l', f', s', Lib.hid ⟨HF2.out, fun h => absurd HLE.out h⟩, HG2, HA2, PRA.far HJ HL.out.1 hgm _ _, PBx.set HL HR.out⟩
        · have heq : fl = sl := by
            have := HTK.out
            rw [List.take_of_length_le (by omega), List.take_of_length_le (by rw [← HLS.out]; omega)] at this
            exact this
          have hend := (eqz_end (n := g') (l := l) (by rw [heq]; exact stp_self sl)).symm.trans (HF.out.1 HLS.out)
          obtain ⟨rfl, rfl⟩ := Prod.mk.inj hend
          clear heq hend
          go_wp2_with fail
          refine bodyPost_ret (v := .tuple #[.agg #[.slice M l.length n, .bool mr], .bool true, .int .i64 0]) (by simp [results, Tryd.results33, go_sem, s0, s1, s2, s3, s4]) rfl (HGOOD.out _ _ ⟨M, n, rfl, ?_, below_box HJ.out.2.2.2.2 (by omega) _ _⟩)
          exact HL.out.2.box HJ.out.1 (slice_ns _ _ _) (bool_ns _) _ _
    · have hlB : ((fl.length : Int) != (sl.length : Int)) = true := by rw [bne_iff_ne]; omega
      have hend := HF.out.2 hlen
      obtain ⟨rfl, rfl⟩ := Prod.mk.inj hend
      clear hend hlen
      go_wp2_with (first
        | (go_at_call_of 26 (Value.agg #[.bool ex, .slice A xs.length c, .bool r, .slice B ys.length d, .bool t]); refine (HN1.out _ (HJ.go (by repeat (first | exact Below.refl _ _ | apply Below.drew | apply below_drewN | apply below_al))).out.2.2.1.1.1 (HJ.go (by repeat (first | exact Below.refl _ _ | apply Below.drew | apply below_drewN | apply below_al))).out.2.2.1.1.2 (HL.go (by repeat (first | exact Below.refl _ _ | apply Below.drew | apply below_drewN | apply below_al))).out.2 (HJ.go (by repeat (first | exact Below.refl _ _ | apply Below.drew | apply below_drewN | apply below_al))).out.2.2.2.1).mono ?_; rintro e w4 ⟨E, k1, F, k2, rfl, hr, hr2, hb⟩; replace HL := HL.go2 (by repeat (first | exact Below.refl _ _ | apply Below.drew | apply below_drewN | apply below_al)) hb; replace HJ := HJ.go2 (by repeat (first | exact Below.refl _ _ | apply Below.drew | apply below_drewN | apply below_al)) hb; have HX := At.prb (ex := false) (l := mr) (q := mr) hr hr2; have d1 := hr.1; have d2 := hr.2.1; have d3 := hr2.1; have d4 := hr2.2.1; clear hr hr2; obtain ⟨⟨s0, s1, s2, s3, s4⟩, ⟨⟨p1, p2, p3, p4, p5, p6⟩, ⟨q1, q2, q3, q4, q5, q6⟩⟩, -⟩ := HJ.out; obtain ⟨⟨m3, m4, m5, m6, m7⟩, -⟩ := HL.out)
        | (go_at_call_of 26 (Value.agg #[.bool fx, .slice C zs.length e, .bool u, .slice D vs.length f, .bool v]); refine (HN2.out _ (HJ.go (by repeat (first | exact Below.refl _ _ | apply Below.drew | apply below_drewN | apply below_al))).out.2.2.1.2.1 (HJ.go (by repeat (first | exact Below.refl _ _ | apply Below.drew | apply below_drewN | apply below_al))).out.2.2.1.2.2 (HL.go (by repeat (first | exact Below.refl _ _ | apply Below.drew | apply below_drewN | apply below_al))).out.2 (HJ.go (by repeat (first | exact Below.refl _ _ | apply Below.drew | apply below_drewN | apply below_al))).out.2.2.2.1).mono ?_; rintro e w5 ⟨G, k3, H, k4, rfl, hr, hr2, hb⟩; replace HL := HL.go2 (by repeat (first | exact Below.refl _ _ | apply Below.drew | apply below_drewN | apply below_al)) hb; replace HJ := HJ.go2 (by repeat (first | exact Below.refl _ _ | apply Below.drew | apply below_drewN | apply below_al)) hb; replace HX := HX.go2 (by repeat (first | exact Below.refl _ _ | apply Below.drew | apply below_drewN | apply below_al)) hb; have HY := At.prb (ex := false) (l := mr) (q := mr) hr hr2; have g1 := hr.1; have g2 := hr.2.1; have g3 := hr2.1; have g4 := hr2.2.1; clear hr hr2; obtain ⟨⟨s0, s1, s2, s3, s4⟩, ⟨⟨p1, p2, p3, p4, p5, p6⟩, ⟨q1, q2, q3, q4, q5, q6⟩⟩, -⟩ := HJ.out; obtain ⟨⟨m3, m4, m5, m6, m7⟩, -⟩ := HL.out; obtain ⟨⟨d5, d6, d7, d8, d9, d10⟩, -⟩ := HX.out)
        | fail)
      refine bodyPost_ret (v := .tuple #[.agg #[.slice none 0 0, .bool false], .bool false, .int .i64 0]) (by simp [results, Tryd.results33, go_sem, s0, s1, s2, s3, s4]) rfl (HGOOD.out _ _ ⟨none, 0, rfl, RT.nil _ _ _ (by omega), ?_⟩)
      exact below_al (below_box HJ.out.2.2.2.2 (by omega) _ _) _
theorem ragree_any (ex : Bool) (A : Option Addr) (c : Nat) (xs : List ByteArray) (r : Bool) (B : Option Addr) (d : Nat) (ys : List ByteArray) (t : Bool) (fx : Bool) (C : Option Addr) (e : Nat) (zs : List ByteArray) (u : Bool) (D : Option Addr) (f : Nat) (vs : List ByteArray) (v : Bool) (w : World) (h : RT w A c xs) (k : RT w B d ys) (h' : RT w C e zs) (k' : RT w D f vs) (hm : ML w)
    (bx : sumB xs ≤ 300) (bY : sumB ys ≤ 300) (bz : sumB zs ≤ 300) (bv : sumB vs ≤ 300) (hlx : xs.length ≤ 5000) (hlz : zs.length ≤ 5000) :
    Calls Tryd.prog 33 #[ruV ex A c xs r B d ys t, ruV fx C e zs u D f vs v] w (RetAg w xs r ys t zs u vs v) := by
  cases hg : agG xs r ys t zs u vs v with
  | true => exact ragree_good ex A c xs r B d ys t fx C e zs u D f vs v w h k h' k' hm bx bY bz bv hlx hlz hg
  | false => exact ragree_bad ex A c xs r B d ys t fx C e zs u D f vs v w h k h' k' hm (fun x hx => by have := sum_mem hx; omega) (fun x hx => by have := sum_mem hx; omega) (fun x hx => by have := sum_mem hx; omega) (fun x hx => by have := sum_mem hx; omega) hlx hlz hg
end Go.Proofs.YtidjmbmnfnnleaaDoor

