/-
  Rules: the walk of equalize.
-/
import Derived.Test.YtidjmbmnfnnleaaDoorA5a
import Derived.Deep.LoopGhost
import Derived.Deep.RegionHeld3
import Derived.Deep.DeepCutAuto
namespace Go.Proofs.YtidjmbmnfnnleaaDoor
set_option linter.unusedSimpArgs false
set_option linter.unusedVariables false
open Go.RowKit
open Pm

set_option maxHeartbeats 16000000 in
theorem equalize_any (A : Option Addr) (c : Nat) (l : List ByteArray) (q : Bool) (B : Option Addr) (d : Nat) (f : List ByteArray) (C : Option Addr) (e : Nat) (s : List ByteArray) (w : World) (h : RT w A c l) (k : RT w B d f) (j : RT w C e s) (hm : ML w)
    (hE : f.length = s.length → ES l f s) (hZ : SZ 2400 l f s) (h0 : 0 < l.length) (h1 : 0 < f.length) (h2 : 0 < s.length) (hl0 : l.length ≤ 100) (hl1 : f.length ≤ 100) (hl2 : s.length ≤ 100) :
    Calls Tryd.prog 50 #[.agg #[.slice A l.length c, .bool q], .agg #[.slice B f.length d, .bool q], .agg #[.slice C s.length e, .bool q]] w (RetM w (eqT l f s).1 ((eqT l f s).2 && q) (eqT l f s).2) := by
  have HI := PC3.enter h k j hm q q q 24
  have hx1 := h.1
  have hx2 := h.2.1
  have hy1 := k.1
  have hy2 := k.2.1
  have hz1 := j.1
  have hz2 := j.2.1
  clear h k j hm
  by_cases hlen : f.length = s.length
  · have HE := Lib.hid (hE hlen)
    have HZ := Lib.hid hZ
    have hlB : ((f.length : Int) != (s.length : Int)) = false := by rw [hlen]; simp
    have HT : Hid (eqT l f s = eqz (countB stB f + 1) l f s) := Lib.hid (by unfold eqT; rw [if_pos hlen])
    rw [HT.out]
    clear hE hZ HT
    generalize hfin : eqz (countB stB f + 1) l f s = fin at *
    obtain ⟨zs, ok⟩ := fin
    have HF := Lib.hid hfin
    have HP := Lib.hid (fun e w' h => show RetM w zs (ok && q) ok e w' from h)
    have HL0 := Lib.hid (And.intro h0 (And.intro h1 h2))
    have HLL := Lib.hid hlen
    clear hfin hlen h0 h1 h2
    go_enter Tryd.func50, Tryd.ntmps50
    go_wp2_with fail
    go_step3
    go_wp2_with fail
    go_step3
    go_wp2_with fail
    go_loopg [8] (countB stB f + 1) (fun g s8 wx => ∃ (A : Option Addr) (c : Nat) (l : List ByteArray) (B : Option Addr) (d : Nat) (f : List ByteArray) (C : Option Addr) (e : Nat) (s : List ByteArray), Hid (eqz g l f s = (zs, ok)) ∧ Hid (countB stB f < g) ∧ Hid (ES l f s ∧ SZ 2400 l f s) ∧ Hid ((0 < l.length ∧ 0 < f.length ∧ 0 < s.length) ∧ l.length ≤ 100 ∧ f.length ≤ 100 ∧ s.length ≤ 100) ∧ At (PC3 w A c l q B d f q C e s q) wx)
    case atStart => exact ⟨A, c, l, B, d, f, C, e, s, HF, Lib.hid (Nat.lt_succ_self _), Lib.hid ⟨HE.out, HZ.out⟩, Lib.hid ⟨HL0.out, hl0, hl1, hl2⟩, HI⟩
    case round =>
      clear HI HE HZ HF HL0 HLL hx1 hx2 hy1 hy2 hz1 hz2 hl0 hl1 hl2 hlB
      obtain ⟨A, c, l, B, d, f, C, e, s, HF, HG, HE, HL, HJ⟩ := hrel
      obtain ⟨⟨p1, p2, p3, p4, p5⟩, ⟨q1, q2, q3, q4, q5⟩, ⟨r1, r2, r3, r4, r5⟩, ⟨s1, s2, s3, s4, s5⟩⟩ := PC3.cells HJ
      have hx1 := HJ.out.2.1.1.1
      have hx2 := HJ.out.2.1.1.2.1
      have hy1 := HJ.out.2.1.2.1.1
      have hy2 := HJ.out.2.1.2.1.2.1
      have hz1 := HJ.out.2.1.2.2.1
      have hz2 := HJ.out.2.1.2.2.2.1
      have hls : f.length = s.length := HE.out.1.2.2.2
      have HLS := Lib.hid hls
      clear hls
      have hlf := HL.out.2.2.1
      cases gk with
      | zero => exact absurd HG.out (by omega)
      | succ g' =>
      go_wp2_with fail
      obtain ⟨wo, rfl⟩ : ∃ wo : World, wo = wr := ⟨_, rfl⟩
      go_loopg [8, 25] f.length (fun g2 s8 s25 wy => ∃ i : Nat, i + g2 = f.length ∧ s25 = .int .i64 i ∧ (∃ n : Nat, n ≤ i ∧ s8 = .int .i64 n ∧ Hid (n = countB stB (f.take i))) ∧ Hid (f.take i = s.take i) ∧ wo = wy)
      case atStart => exact ⟨0, by omega, rfl, ⟨0, Nat.le_refl _, rfl, Lib.hid rfl⟩, Lib.hid rfl, rfl⟩
      case round =>
        obtain ⟨i, hig, rfl, ⟨n, hni, rfl, HN⟩, HTK, rfl⟩ := hrel
        by_cases hlt : i < f.length
        · have hlt2 : i < s.length := by rw [← HLS.out]; exact hlt
          obtain ⟨g2, rfl⟩ : ∃ g2, gk = g2 + 1 := ⟨gk - 1, by omega⟩
          obtain ⟨x, hx⟩ : ∃ x, f[i]? = some x := ⟨_, List.getElem?_eq_getElem hlt⟩
          obtain ⟨y, hy⟩ : ∃ y, s[i]? = some y := ⟨_, List.getElem?_eq_getElem hlt2⟩
          obtain ⟨b1, o1, rfl, hb1, hc1⟩ := HJ.out.2.1.2.1.2.2 (by omega)
          obtain ⟨b2, o2, rfl, hb2, hc2⟩ := HJ.out.2.1.2.2.2.2 (by omega)
          have hcx := hc1 i x hx
          have hcy := hc2 i y hy
          have hxz : x.size ≤ 2400 := HE.out.2.le.2.1 x (List.mem_of_getElem? hx)
          have hyz : y.size ≤ 2400 := HE.out.2.le.2.2 y (List.mem_of_getElem? hy)
          have HX := Lib.hid hx
          have HY := Lib.hid hy
          clear hc1 hc2 hx hy hb1 hb2
          by_cases he : x = y
          · have heB : (x.toList == y.toList) = true := by rw [he]; simp
            have HTK2 : Hid (f.take (i + 1) = s.take (i + 1)) := Lib.hid (by rw [List.take_add_one, List.take_add_one, HTK.out, HX.out, HY.out, he])
            clear he
            cases hs : stB x with
            | true =>
              have HN2 : Hid (n + 1 = countB stB (f.take (i + 1))) := Lib.hid (by rw [take_cnt HX.out, if_pos hs, HN.out])
              go_wp2_with (go_at_call 74; refine (starP_any _ _).mono ?_; rintro e w' ⟨rfl, rfl⟩)
              go_roundg g2
              case measure => omega
              case rel => exact ⟨i + 1, by omega, by go_num, ⟨n + 1, by omega, by go_num, HN2⟩, HTK2, rfl⟩
            | false =>
              have HN2 : Hid (n = countB stB (f.take (i + 1))) := Lib.hid (by rw [take_cnt HX.out, if_neg (by rw [hs]; decide), HN.out]; rfl)
              go_wp2_with (go_at_call 74; refine (starP_any _ _).mono ?_; rintro e w' ⟨rfl, rfl⟩)
              go_roundg g2
              case measure => omega
              case rel => exact ⟨i + 1, by omega, by go_num, ⟨n, by omega, rfl, HN2⟩, HTK2, rfl⟩
          · have heB := txt_ne he
            have HSTP : Hid (stp f s = some (n, x, y)) := Lib.hid (by rw [stp_at HTK.out HX.out HY.out he, HN.out])
            have HDT := Lib.hid (fun w => determine_any x y w (by omega) (by omega))
            clear he
            cases hd : detO x y with
            | false =>
              rw [hd] at HDT
              have hend := (eqz_bad (n := g') (l := l) HSTP.out hd).symm.trans HF.out
              obtain ⟨rfl, rfl⟩ := Prod.mk.inj hend
              clear hend hd
              generalize detC x y = cap at *
              go_wp2_with (go_at_call 72; refine (HDT.out _).mono ?_; rintro e w' ⟨rfl, rfl⟩)
              try rw [Exit.noGoto_ret]
              refine bodyPost_ret (v := .tuple #[.agg #[.slice none 0 0, .bool false], .bool false]) (by simp [results, Tryd.results50, go_sem, s1, s2, s3, s4]) rfl (HP.out _ _ ⟨none, 0, rfl, RT.nil _ _ _ (by omega), below_box HJ.out.2.2.2 (by omega) _ _⟩)
            | true =>
              rw [hd] at HDT
              have HF2 : Hid (eqz g' (fixB (detC x y) n l) (fixB (detC x y) n f) (fixB (detC x y) n s) = (zs, ok)) := Lib.hid ((eqz_step (n := g') (l := l) HSTP.out hd).symm.trans HF.out)
              obtain ⟨hcc, hkk, _⟩ := HE.out.1.lt HSTP.out hd
              have HE2 := Lib.hid (And.intro (HE.out.1.fix hcc hkk).1 (HE.out.2.fix HE.out.1 HSTP.out hd).1)
              have HG2 : Hid (countB stB (fixB (detC x y) n f) < g') := Lib.hid (by have := (HE.out.1.fix hcc hkk).2; have := HG.out; omega)
              have hcz := (HE.out.2.fix HE.out.1 HSTP.out hd).2
              have HL2 : Hid ((0 < (fixB (detC x y) n l).length ∧ 0 < (fixB (detC x y) n f).length ∧ 0 < (fixB (detC x y) n s).length) ∧ (fixB (detC x y) n l).length ≤ 100 ∧ (fixB (detC x y) n f).length ≤ 100 ∧ (fixB (detC x y) n s).length ≤ 100) := Lib.hid (by rw [fix_len, fix_len, fix_len]; exact HL.out)
              have HX1 := Lib.hid (fun w h => fix_any A c l q n (detC x y) w h HL.out.1.1 (by have := HL.out.2.1; omega) (by omega) (fun z hz => by have := HE.out.2.le.1 z hz; omega) (by omega))
              have HX2 := Lib.hid (fun w h => fix_any (some ⟨b1, o1, none⟩) d f q n (detC x y) w h HL.out.1.2.1 (by have := HL.out.2.2.1; omega) (by omega) (fun z hz => by have := HE.out.2.le.2.1 z hz; omega) (by omega))
              have HX3 := Lib.hid (fun w h => fix_any (some ⟨b2, o2, none⟩) e s q n (detC x y) w h HL.out.1.2.2 (by have := HL.out.2.2.2; omega) (by omega) (fun z hz => by have := HE.out.2.le.2.2 z hz; omega) (by omega))
              unfold RetP1 at HX1 HX2 HX3
              clear hcc hkk hd
              generalize fixB (detC x y) n l = l' at *
              generalize fixB (detC x y) n f = f' at *
              generalize fixB (detC x y) n s = s' at *
              generalize detC x y = cap at *
              go_wp2_with (go_at_call 72; refine (HDT.out _).mono ?_; rintro e w' ⟨rfl, rfl⟩)
              go_upto_region 12 with fail
              go_cut [8] (fun s8 wx => ∃ (A1 : Option Addr) (c1 : Nat) (B1 : Option Addr) (d1 : Nat) (C1 : Option Addr) (e1 : Nat), At (PC3 w A1 c1 l' q B1 d1 f' q C1 e1 s' q) wx)
              case first =>
                go_region_with
                  (first
                    | (go_at_call 73; ((with_reducible refine (HX1.out _ (PC3.rl (HJ.go (by repeat (first | exact Below.refl _ _ | apply Below.drew | apply below_drewN | apply below_al))))).mono ?_); rintro e w3 ⟨A1, c1, rfl, hr, hb⟩); replace HJ := HJ.go2 (by repeat (first | exact Below.refl _ _ | apply Below.drew | apply below_drewN | apply below_al)) hb; have HR1 : At (fun w => RT w A1 c1 l') w3 := ⟨kept_rt _ _ _, hr⟩; have hr1 := hr.1; have hr2 := hr.2.1; obtain ⟨⟨p1, p2, p3, p4, p5⟩, ⟨q1, q2, q3, q4, q5⟩, ⟨r1, r2, r3, r4, r5⟩, ⟨s1, s2, s3, s4, s5⟩⟩ := PC3.cells HJ; clear hr hb)
                    | (go_at_call 73; ((with_reducible refine (HX2.out _ (PC3.rf (HJ.go (by repeat (first | exact Below.refl _ _ | apply Below.drew | apply below_drewN | apply below_al))))).mono ?_); rintro e w4 ⟨B1, d1, rfl, hr, hb⟩); replace HJ := HJ.go2 (by repeat (first | exact Below.refl _ _ | apply Below.drew | apply below_drewN | apply below_al)) hb; replace HR1 := HR1.go2 (by repeat (first | exact Below.refl _ _ | apply Below.drew | apply below_drewN | apply below_al)) hb; have HR2 : At (fun w => RT w B1 d1 f') w4 := ⟨kept_rt _ _ _, hr⟩; have hr3 := hr.1; have hr4 := hr.2.1; obtain ⟨⟨p1, p2, p3, p4, p5⟩, ⟨q1, q2, q3, q4, q5⟩, ⟨r1, r2, r3, r4, r5⟩, ⟨s1, s2, s3, s4, s5⟩⟩ := PC3.cells HJ; clear hr hb)
                    | (go_at_call 73; ((with_reducible refine (HX3.out _ (PC3.rs (HJ.go (by repeat (first | exact Below.refl _ _ | apply Below.drew | apply below_drewN | apply below_al))))).mono ?_); rintro e w5 ⟨C1, e1, rfl, hr, hb⟩); replace HJ := HJ.go2 (by repeat (first | exact Below.refl _ _ | apply Below.drew | apply below_drewN | apply below_al)) hb; replace HR1 := HR1.go2 (by repeat (first | exact Below.refl _ _ | apply Below.drew | apply below_drewN | apply below_al)) hb; replace HR2 := HR2.go2 (by repeat (first | exact Below.refl _ _ | apply Below.drew | apply below_drewN | apply below_al)) hb; have HR3 : At (fun w => RT w C1 e1 s') w5 := ⟨kept_rt _ _ _, hr⟩; have hr5 := hr.1; have hr6 := hr.2.1; obtain ⟨⟨p1, p2, p3, p4, p5⟩, ⟨q1, q2, q3, q4, q5⟩, ⟨r1, r2, r3, r4, r5⟩, ⟨s1, s2, s3, s4, s5⟩⟩ := PC3.cells HJ; clear hr hb))
                all_goals
                  go_wp2_with fail
                  go_meet
                  exact ⟨A1, c1, B1, d1, C1, e1, PC3.set (HJ.go (by repeat (first | exact Below.refl _ _ | apply Below.drew | apply below_drewN | apply below_al))) (HR1.go (by repeat (first | exact Below.refl _ _ | apply Below.drew | apply below_drewN | apply below_al))).out (HR2.go (by repeat (first | exact Below.refl _ _ | apply Below.drew | apply below_drewN | apply below_al))).out (HR3.go (by repeat (first | exact Below.refl _ _ | apply Below.drew | apply below_drewN | apply below_al))).out⟩
              case rest =>
                obtain ⟨A1, c1, B1, d1, C1, e1, HK⟩ := hcut
                go_wp2_with fail
                go_roundg g'
                case measure => omega
                case rel => exact ⟨A1, c1, l', B1, d1, f', C1, e1, s', HF2, HG2, HE2, HL2, HK.go (by repeat (first | exact Below.refl _ _ | apply Below.drew | apply below_drewN | apply below_al))⟩
        · have heq : f = s := by
            have := HTK.out
            rw [List.take_of_length_le (by omega), List.take_of_length_le (by rw [← HLS.out]; omega)] at this
            exact this
          have hend := (eqz_end (n := g') (l := l) (by rw [heq]; exact stp_self s)).symm.trans HF.out
          obtain ⟨rfl, rfl⟩ := Prod.mk.inj hend
          clear heq hend
          go_wp2_with fail
          try rw [Exit.noGoto_ret]
          refine bodyPost_ret (v := .tuple #[.agg #[.slice A l.length c, .bool q], .bool true]) (by simp [results, Tryd.results50, go_sem, s1, s2, s3, s4]) rfl (HP.out _ _ ⟨A, c, rfl, ?_, below_box HJ.out.2.2.2 (by omega) _ _⟩)
          exact HJ.out.2.1.1.box ⟨s1, s2, s3, s4, s5⟩ (slice_ns _ _ _) (bool_ns _) _ _
  · have hlB : ((f.length : Int) != (s.length : Int)) = true := by rw [bne_iff_ne]; omega
    have HT : Hid (eqT l f s = ([], false)) := Lib.hid (by unfold eqT; rw [if_neg hlen])
    rw [HT.out]
    clear hE hZ HT hlen
    obtain ⟨⟨p1, p2, p3, p4, p5⟩, ⟨q1, q2, q3, q4, q5⟩, ⟨r1, r2, r3, r4, r5⟩, ⟨s1, s2, s3, s4, s5⟩⟩ := PC3.cells HI
    go_enter Tryd.func50, Tryd.ntmps50
    go_wp2_with fail
    try go_step3
    try go_wp2_with fail
    try go_step3
    try go_wp2_with fail
    try rw [Exit.noGoto_ret]
    refine bodyPost_ret (v := .tuple #[.agg #[.slice none 0 0, .bool false], .bool false]) (by simp [results, Tryd.results50, go_sem, s1, s2, s3, s4]) rfl ⟨none, 0, rfl, RT.nil _ _ _ (by omega), ?_⟩
    first | exact (by repeat (first | exact Below.refl _ _ | apply Below.drew | apply below_drewN | apply below_al)) | exact below_box HI.out.2.2.2 (by omega) _ _
end Go.Proofs.YtidjmbmnfnnleaaDoor

