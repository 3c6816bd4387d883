/-
  The walk of the reference's Apply.
-/
import Derived.Test.YtfhkmmicdbblnaaDoorE1
import Derived.Test.YtfhkmmicdbblnaaDoorB2
namespace Go.Proofs.YtfhkmmicdbblnaaDoor
set_option linter.unusedSimpArgs false
set_option linter.unusedVariables false
open Go.RowKit

theorem lnB_one (x : ByteArray) : lnB x = decide ((lB x).length = 1) := by
  rw [Bool.eq_iff_iff, decide_eq_true_iff]
  unfold lnB lB
  rw [List.length_map, lns_single]
theorem apR_lines {a : ByteArray} {hs : List (Int × Int × List ByteArray)} : (apR a hs).all lnB = hs.all (fun h => h.2.2.all lnB) := by
  rw [Bool.eq_iff_iff, List.all_eq_true, List.all_eq_true]
  constructor
  · intro h g hg
    refine List.all_eq_true.2 fun x hx => h x ?_
    unfold apR
    exact mem_apl (lB a) (natH hs) 0 (g.1.toNat, g.2.1.toNat, g.2.2) (List.mem_map.2 ⟨g, hg, rfl⟩) x hx
  · intro h x hx
    rcases apR_mem hx with h1 | ⟨g, g1, g2⟩
    · exact lB_line h1
    · exact List.all_eq_true.1 (h g g1) x g2
theorem apOk_ref (a : ByteArray) (hs : List (Int × Int × List ByteArray)) : apOk a hs = (scrI (lB a).length hs (-1) && ((apR a hs).all lnB && nlT (apR a hs))) := by
  unfold apOk scB
  rw [apR_lines, Bool.and_assoc]
theorem step_append_textsN {w : World} {ops : Array Oper} {o : Oper} {a : Act} {K : Act → World → Prop} {Q : Exit → Act → World → Prop} {E : Prop} (hgd : o.guard = none) (s x : Operand)
    (ho : o.op = .call { callee := .builtin .append, args := #[s, x], argTypes := #[30, 30] })
    (base : Nat) (v : Value) (xs ys : List ByteArray) (A : Option Addr) (n c : Nat) (hn : n = ys.length) (hs : a.eval s = v) (hx : a.eval x = .slice A n c) (hown : OT w base v xs) (hr : RT w A c ys)
    (hlen : xs.length + ys.length ≤ 1000000) (hbase : base ≤ w.heap.size)
    (h : ∀ v' w', OT w' base v' (xs ++ ys) → w.grownBy w' v.ownBlock → (v'.ownBlock = v.ownBlock ∨ v'.ownBlock = some w.heap.size) → K (a.put o.dst v') w') :
    if Region.wanted o (yielded ops a.tmps) = true then Oper.wp Tryd.prog o a w K Q else E :=
  step_append_texts hgd s x ho base v xs ys A c hs (hn ▸ hx) hown hr hlen hbase h
/-- the loop over hunks, with the end of the hunk ahead -/
def RJ (L : List ByteArray) (hs : List (Int × Int × List ByteArray)) (R : List ByteArray) (k t : Nat) (done : List ByteArray) : Prop :=
  R = done ++ apl L (natH (hs.drop k)) t ∧ t ≤ L.length ∧ ((k = 0 ∧ t = 0) ∨ (0 < k ∧ ∃ g, hs[k - 1]? = some g ∧ g.2.1 = (t : Int))) ∧ scrI L.length hs (-1) = scrI L.length (hs.drop k) (if k = 0 then -1 else (t : Int))
theorem RJ.bad {L : List ByteArray} {hs : List (Int × Int × List ByteArray)} {R : List ByteArray} {k t : Nat} {done : List ByteArray} (h : RJ L hs R k t done) {f t' : Int} {ls : List ByteArray} (hx : hs[k]? = some (f, t', ls)) (hb : ¬ ((if k = 0 then -1 else (t : Int)) < f ∧ f ≤ t' ∧ t' ≤ L.length ∧ (f = t' → ls ≠ []))) : scrI L.length hs (-1) = false := by
  obtain ⟨_, _, _, h4⟩ := h
  obtain ⟨q1, q2⟩ := List.getElem?_eq_some_iff.1 hx
  rw [h4, List.drop_eq_getElem_cons q1, q2]
  unfold scrI
  rw [decide_eq_false hb, Bool.false_and]
theorem RJ.step {L : List ByteArray} {hs : List (Int × Int × List ByteArray)} {R : List ByteArray} {k t : Nat} {done : List ByteArray} (h : RJ L hs R k t done) {f t' : Int} {ls : List ByteArray} (hx : hs[k]? = some (f, t', ls)) (hb : (if k = 0 then -1 else (t : Int)) < f ∧ f ≤ t' ∧ t' ≤ L.length ∧ (f = t' → ls ≠ [])) :
    ∃ F T : Nat, f = F ∧ t' = T ∧ t ≤ F ∧ F ≤ L.length ∧ T ≤ L.length ∧ RJ L hs R (k + 1) T ((done ++ (L.drop t).take (F - t)) ++ ls) := by
  obtain ⟨h1, h2, h3, h4⟩ := h
  obtain ⟨q1, q2⟩ := List.getElem?_eq_some_iff.1 hx
  rw [List.drop_eq_getElem_cons q1, q2] at h1 h4
  have hf : (t : Int) ≤ f := by
    rcases h3 with ⟨rfl, rfl⟩ | ⟨h3, _⟩
    · have := hb.1; simp at this; omega
    · have := hb.1; rw [if_neg (by omega)] at this; omega
  obtain ⟨F, rfl⟩ : ∃ F : Nat, f = F := ⟨f.toNat, by omega⟩
  obtain ⟨T, rfl⟩ : ∃ T : Nat, t' = T := ⟨t'.toNat, by omega⟩
  refine ⟨F, T, rfl, rfl, by omega, by omega, by omega, ?_, by omega, .inr ⟨by omega, _, hx, rfl⟩, ?_⟩
  · rw [h1, List.append_assoc, List.append_assoc]
    rfl
  · rw [h4]
    conv => lhs; unfold scrI
    rw [decide_eq_true hb, Bool.true_and, if_neg (by omega)]
theorem RJ.start {L : List ByteArray} {hs : List (Int × Int × List ByteArray)} : RJ L hs (apl L (natH hs) 0) 0 0 [] := ⟨rfl, Nat.zero_le _, .inl ⟨rfl, rfl⟩, rfl⟩
theorem RJ.done {L : List ByteArray} {hs : List (Int × Int × List ByteArray)} {R : List ByteArray} {t : Nat} {done : List ByteArray} (h : RJ L hs R hs.length t done) : R = done ++ L.drop t ∧ t ≤ L.length ∧ scrI L.length hs (-1) = true := by
  obtain ⟨h1, h2, _, h4⟩ := h
  rw [List.drop_length] at h1 h4
  exact ⟨h1, h2, h4⟩
theorem RJ.len {L : List ByteArray} {hs : List (Int × Int × List ByteArray)} {R : List ByteArray} {k t : Nat} {done : List ByteArray} (h : RJ L hs R k t done) : done.length ≤ R.length := by
  rw [h.1, List.length_append]; omega

set_option maxHeartbeats 4000000 in
set_option maxRecDepth 100000 in
theorem rapply_any (a : ByteArray) (A : Option Addr) (c : Nat) (hs : List (Int × Int × List ByteArray)) (w : World) (ha : a.size ≤ 100000) (hm : ML w) (h : RF w A c 3 (hs.map hkI))
    (hr : (apR a hs).length ≤ 100000 ∧ (catB (apR a hs)).size ≤ 100000000 ∧ ∀ x ∈ apR a hs, x.size ≤ 100000) :
    Calls Tryd.prog 17 #[.string a, .slice A hs.length c] w (RetS w (apS a hs) (apE a hs)) := by
  have h1 := h.1
  have h2 := h.2.1
  rw [List.length_map] at h1
  have HR := Lib.hid h
  have HM := Lib.hid hm
  have HLN := Lib.hid (fun W h => rLines_any a W ha h)
  have HLX := Lib.hid (fun x W h hx => rLines_any x W hx h)
  unfold RetT at HLN HLX
  have HST : Hid (RJ (lB a) hs (apR a hs) 0 0 []) := Lib.hid RJ.start
  have HRL := Lib.hid hr.1
  have HRS := Lib.hid hr.2.2
  have HJ := Lib.hid (fun A c W h => join0_any A c (apR a hs) W h hr.1 hr.2.1)
  have HGD : Hid (scrI (lB a).length hs (-1) = true → (apR a hs).all lnB = true → nlT (apR a hs) = true → apS a hs = catB (apR a hs) ∧ apE a hs = 0) := Lib.hid (fun h1 h2 h3 => ap_good (by rw [apOk_ref, h1, h2, h3]; rfl))
  have HBD : Hid ((apR a hs).all lnB = false ∨ nlT (apR a hs) = false → apS a hs = ⟨#[]⟩ ∧ apE a hs = 161) := Lib.hid (fun h => ap_bad (by rw [apOk_ref]; rcases h with h | h <;> rw [h] <;> simp))
  have HLB : Hid (lB a = lB a) := Lib.hid rfl
  clear h hm hr ha
  generalize hRR : apR a hs = R at *
  generalize hLL : lB a = L at HLN HST HGD HLB ⊢
  replace HLB : Hid (lB a = L) := Lib.hid hLL
  clear hRR hLL
  generalize catB R = RC at *
  go_enter Tryd.func17, Tryd.ntmps17
  go_wp2_with (go_at_call 14; refine (HLN.out _ HM.out).mono ?_; rintro e w1 ⟨A1, c1, rfl, hrt, hb⟩; have HB1 := Lib.hid hb; have HOT := Lib.hid hrt; have r1 := hrt.1; have r2 := hrt.2.1; clear hrt hb)
  go_loopw [7, 8, 18] (fun v t i wr => ∃ (k tt : Nat) (done : List ByteArray), k ≤ hs.length ∧ i = .int .i64 k ∧ t = .int .i64 tt ∧ Hid (RJ L hs R k tt done) ∧ Hid (OT wr w1.heap.size v done) ∧ Hid (Below w1.heap.size w1 wr)) (fun _ _ i _ => hs.length - (intOf i).toNat)
  case atStart => exact ⟨0, 0, [], Nat.zero_le _, rfl, rfl, HST, Lib.hid (OT.nil _ _), Lib.hid (Below.refl _ _)⟩
  case round =>
    obtain ⟨k, tt, done, hk, rfl, rfl, HI, HO, HB⟩ := hrel
    have hbs := HB.out.size
    by_cases hlt : k < hs.length
    · obtain ⟨⟨f, t, ls⟩, hx⟩ : ∃ x, hs[k]? = some x := ⟨_, List.getElem?_eq_getElem hlt⟩
      obtain ⟨b, o, C, m, rfl, hb1, x0, x1, x2, r⟩ := HR.out.hunkI hx
      simp only at x0 x1 x2 r
      have hbw := go3 HB1.out HB.out
      replace x0 := (hbw.cell (p := ⟨b, o + k * 3, none⟩) hb1).trans x0
      replace x1 := (hbw.cell (p := ⟨b, o + k * 3 + 1, none⟩) hb1).trans x1
      replace x2 := (hbw.cell (p := ⟨b, o + k * 3 + 2, none⟩) hb1).trans x2
      have HX := Lib.hid hx
      have HRT := Lib.hid r
      have r3 := r.1
      have r4 := r.2.1
      have hbn : b < wr.heap.size := Nat.lt_of_lt_of_le hb1 hbw.size
      clear hx r hb1 hbw
      by_cases d1 : f < 0
      · have HNB : Hid (¬ ((if k = 0 then -1 else (tt : Int)) < f ∧ f ≤ t ∧ t ≤ L.length ∧ (f = t → ls ≠ []))) := Lib.hid (by
          rintro ⟨q, _⟩
          split at q <;> omega)
        have b1 : decide (f < 0) = true := decide_eq_true d1
        clear d1
        have HBAD := Lib.hid (ap_bad (a := a) (hs := hs) (by rw [apOk_ref, HLB.out, HI.out.bad HX.out (HNB.out), Bool.false_and]))
        go_wp2_with fail
        go_quiet (fail)
        go_wp2_with fail
        go_ret2
        exact RetS.of ⟨rfl, go3 (go3 HB1.out (HB.out.alloc hbs _)) (by repeat (first | exact Below.refl _ _ | apply Below.drew | apply below_drewN | apply below_al))⟩ HBAD.out.1 HBAD.out.2
      · have b1 : decide (f < 0) = false := decide_eq_false d1
        have D1 := Lib.hid d1
        clear d1
        by_cases d2 : (L.length : Int) < t
        · have HNB : Hid (¬ ((if k = 0 then -1 else (tt : Int)) < f ∧ f ≤ t ∧ t ≤ L.length ∧ (f = t → ls ≠ []))) := Lib.hid (by rintro ⟨_, _, q, _⟩; omega)
          have b2 : decide ((L.length : Int) < t) = true := decide_eq_true d2
          clear d2
          have HBAD := Lib.hid (ap_bad (a := a) (hs := hs) (by rw [apOk_ref, HLB.out, HI.out.bad HX.out (HNB.out), Bool.false_and]))
          go_wp2_with fail
          go_quiet (fail)
          go_wp2_with fail
          go_ret2
          exact RetS.of ⟨rfl, go3 (go3 HB1.out (HB.out.alloc hbs _)) (by repeat (first | exact Below.refl _ _ | apply Below.drew | apply below_drewN | apply below_al))⟩ HBAD.out.1 HBAD.out.2
        · have b2 : decide ((L.length : Int) < t) = false := decide_eq_false d2
          have D2 := Lib.hid d2
          clear d2
          by_cases d3 : t < f
          · have HNB : Hid (¬ ((if k = 0 then -1 else (tt : Int)) < f ∧ f ≤ t ∧ t ≤ L.length ∧ (f = t → ls ≠ []))) := Lib.hid (by rintro ⟨_, q, _⟩; omega)
            have b3 : decide (t < f) = true := decide_eq_true d3
            clear d3
            have HBAD := Lib.hid (ap_bad (a := a) (hs := hs) (by rw [apOk_ref, HLB.out, HI.out.bad HX.out (HNB.out), Bool.false_and]))
            go_wp2_with fail
            go_quiet (fail)
            go_wp2_with fail
            go_ret2
            exact RetS.of ⟨rfl, go3 (go3 HB1.out (HB.out.alloc hbs _)) (by repeat (first | exact Below.refl _ _ | apply Below.drew | apply below_drewN | apply below_al))⟩ HBAD.out.1 HBAD.out.2
          · have b3 : decide (t < f) = false := decide_eq_false d3
            have D3 := Lib.hid d3
            clear d3
            have hI := HI.out.2.2.1
            by_cases k0 : k = 0
            · have b4 : decide (0 < k) = false := decide_eq_false (by omega)
              have HLO : Hid ((if k = 0 then (-1 : Int) else (tt : Int)) = -1) := Lib.hid (if_pos k0)
              have HNS : Hid (-1 < f) := Lib.hid (by have := D1.out; omega)
              clear hI k0
              by_cases d5 : f = t
              · have b6 : (f == t) = true := by simpa using d5
                by_cases d6 : ls = []
                · have b7 : ((ls.length : Int) == 0) = true := by rw [d6]; rfl
                  have HNB : Hid (¬ ((if k = 0 then -1 else (tt : Int)) < f ∧ f ≤ t ∧ t ≤ L.length ∧ (f = t → ls ≠ []))) := Lib.hid (by rintro ⟨_, _, _, q⟩; exact q d5 d6)
                  clear d5 d6
                  have HBAD := Lib.hid (ap_bad (a := a) (hs := hs) (by rw [apOk_ref, HLB.out, HI.out.bad HX.out (HNB.out), Bool.false_and]))
                  go_wp2_with fail
                  go_quiet (fail)
                  go_wp2_with fail
                  go_ret2
                  exact RetS.of ⟨rfl, go3 (go3 HB1.out (HB.out.alloc hbs _)) (by repeat (first | exact Below.refl _ _ | apply Below.drew | apply below_drewN | apply below_al))⟩ HBAD.out.1 HBAD.out.2
                · have b7 : ((ls.length : Int) == 0) = false := by
                    rw [beq_eq_false_iff_ne]
                    intro e
                    exact d6 (List.eq_nil_of_length_eq_zero (by omega))
                  have HYB : Hid ((if k = 0 then -1 else (tt : Int)) < f ∧ f ≤ t ∧ t ≤ L.length ∧ (f = t → ls ≠ [])) := Lib.hid (by
                    have q2 := D2.out
                    have q3 := D3.out
                    rw [HLO.out]
                    exact ⟨HNS.out, by omega, by omega, fun _ => d6⟩)
                  clear d5 d6
                  go_wp2_with fail
                  go_quiet (fail)
                  go_wp2_with fail
                  clear b1 b2 b3 b4
                  obtain ⟨F, T, rfl, rfl, hF, hF2, hT2, hnx⟩ := HI.out.step HX.out (HYB.out)
                  have HNX := Lib.hid hnx
                  have HLEN : Hid (((done ++ (L.drop tt).take (F - tt)) ++ ls).length ≤ 100000) := Lib.hid (by have := HRL.out; have := hnx.len; omega)
                  have HYL := Lib.hid (cut_len (xs := L) (t := tt) hF2)
                  have hcut := run_cut_texts A1 L.length c1 tt F hF (by omega) r2
                  have HOC := Lib.hid (HOT.out.cut (t := tt) F (by omega))
                  clear hnx
                  generalize cutA A1 c1 tt 1 = A6 at *
                  have hwz : wr.heap.size < wr.heap.size + 1 := Nat.lt_succ_self _
                  go_region_law (first
                    | (refine step_append_textsN rfl (.tmp 68) (.tmp 73) rfl w1.heap.size _ done ((L.drop tt).take (F - tt)) A6 (F - tt) (c1 - tt) HYL.out.symm rfl rfl (HO.out.below (by repeat (first | exact Below.refl _ _ | apply Below.drew | apply below_drewN | apply below_al))) ((HOC.out.below HB.out).below (by repeat (first | exact Below.refl _ _ | apply Below.drew | apply below_drewN | apply below_al))) (by have := HLEN.out; rw [List.length_append, List.length_append] at this; omega) (by simp; omega) ?_; intro v1 w3 hown hg hv1; have HB3 := Lib.hid ((go3 HB.out (by repeat (first | exact Below.refl _ _ | apply Below.drew | apply below_drewN | apply below_al))).grown hg (by simp; omega) (fun k hk => HO.out.own k hk)); have HOW := Lib.hid hown; have hy := cells_kept (g := wr.heap.size) hg (by simp) (by intro e; have := HO.out.lt _ e; omega); have z3 : w3.cell? ⟨wr.heap.size, 1, none⟩ = some (.int .i64 (T : Int)) := (hy 1).trans (by simp [World.cell?_alloc_new]); have z4 : w3.cell? ⟨wr.heap.size, 2, none⟩ = some (.slice C ls.length m) := (hy 2).trans (by simp [World.cell?_alloc_new]); have HNE := Lib.hid (own_ne (g := wr.heap.size) hv1 HO.out.lt (Nat.le_refl _) (by simp)); have HS3 : Hid (wr.heap.size < w3.heap.size) := Lib.hid (by have := hg.size; simp at this; omega); clear hown hg hcut hy hv1)
                    | (refine step_append_textsN rfl (.tmp 74) (.tmp 76) rfl w1.heap.size _ (done ++ (L.drop tt).take (F - tt)) ls C ls.length m rfl rfl rfl (HOW.out.below (by repeat (first | exact Below.refl _ _ | apply Below.drew | apply below_drewN | apply below_al))) (HRT.out.below (go3 (go3 HB1.out HB3.out) (by repeat (first | exact Below.refl _ _ | apply Below.drew | apply below_drewN | apply below_al)))) (by have := HLEN.out; rw [List.length_append] at this; exact Nat.le_trans this (by omega)) (by have := HB3.out.size; simp; omega) ?_; intro v2 w4 hown hg hv2; have HB4 := Lib.hid ((go3 HB3.out (by repeat (first | exact Below.refl _ _ | apply Below.drew | apply below_drewN | apply below_al))).grown hg (by have := HB3.out.size; simp; omega) (fun k hk => HOW.out.own k hk)); have HOW2 := Lib.hid hown; have hy := cells_kept (g := wr.heap.size) hg HS3.out HNE.out; have z5 : w4.cell? ⟨wr.heap.size, 1, none⟩ = some (.int .i64 (T : Int)) := (hy 1).trans z3; clear hown hg hy hv2))
                  all_goals
                    go_wp2_with fail
                    go_roundw
                    case rel => exact ⟨k + 1, T, _, by omega, by go_num, rfl, HNX, Lib.hid (HOW2.out.below (by repeat (first | exact Below.refl _ _ | apply Below.drew | apply below_drewN | apply below_al))), Lib.hid (go3 HB4.out (by repeat (first | exact Below.refl _ _ | apply Below.drew | apply below_drewN | apply below_al)))⟩
                    case measure => simp [intOf]; omega
              · have b6 : (f == t) = false := by simpa using d5
                have HYB : Hid ((if k = 0 then -1 else (tt : Int)) < f ∧ f ≤ t ∧ t ≤ L.length ∧ (f = t → ls ≠ [])) := Lib.hid (by
                  have q2 := D2.out
                  have q3 := D3.out
                  rw [HLO.out]
                  exact ⟨HNS.out, by omega, by omega, fun e => absurd e d5⟩)
                clear d5
                go_wp2_with fail
                go_quiet (fail)
                go_wp2_with fail
                clear b1 b2 b3 b4
                obtain ⟨F, T, rfl, rfl, hF, hF2, hT2, hnx⟩ := HI.out.step HX.out (HYB.out)
                have HNX := Lib.hid hnx
                have HLEN : Hid (((done ++ (L.drop tt).take (F - tt)) ++ ls).length ≤ 100000) := Lib.hid (by have := HRL.out; have := hnx.len; omega)
                have HYL := Lib.hid (cut_len (xs := L) (t := tt) hF2)
                have hcut := run_cut_texts A1 L.length c1 tt F hF (by omega) r2
                have HOC := Lib.hid (HOT.out.cut (t := tt) F (by omega))
                clear hnx
                generalize cutA A1 c1 tt 1 = A6 at *
                have hwz : wr.heap.size < wr.heap.size + 1 := Nat.lt_succ_self _
                go_region_law (first
                  | (refine step_append_textsN rfl (.tmp 68) (.tmp 73) rfl w1.heap.size _ done ((L.drop tt).take (F - tt)) A6 (F - tt) (c1 - tt) HYL.out.symm rfl rfl (HO.out.below (by repeat (first | exact Below.refl _ _ | apply Below.drew | apply below_drewN | apply below_al))) ((HOC.out.below HB.out).below (by repeat (first | exact Below.refl _ _ | apply Below.drew | apply below_drewN | apply below_al))) (by have := HLEN.out; rw [List.length_append, List.length_append] at this; omega) (by simp; omega) ?_; intro v1 w3 hown hg hv1; have HB3 := Lib.hid ((go3 HB.out (by repeat (first | exact Below.refl _ _ | apply Below.drew | apply below_drewN | apply below_al))).grown hg (by simp; omega) (fun k hk => HO.out.own k hk)); have HOW := Lib.hid hown; have hy := cells_kept (g := wr.heap.size) hg (by simp) (by intro e; have := HO.out.lt _ e; omega); have z3 : w3.cell? ⟨wr.heap.size, 1, none⟩ = some (.int .i64 (T : Int)) := (hy 1).trans (by simp [World.cell?_alloc_new]); have z4 : w3.cell? ⟨wr.heap.size, 2, none⟩ = some (.slice C ls.length m) := (hy 2).trans (by simp [World.cell?_alloc_new]); have HNE := Lib.hid (own_ne (g := wr.heap.size) hv1 HO.out.lt (Nat.le_refl _) (by simp)); have HS3 : Hid (wr.heap.size < w3.heap.size) := Lib.hid (by have := hg.size; simp at this; omega); clear hown hg hcut hy hv1)
                  | (refine step_append_textsN rfl (.tmp 74) (.tmp 76) rfl w1.heap.size _ (done ++ (L.drop tt).take (F - tt)) ls C ls.length m rfl rfl rfl (HOW.out.below (by repeat (first | exact Below.refl _ _ | apply Below.drew | apply below_drewN | apply below_al))) (HRT.out.below (go3 (go3 HB1.out HB3.out) (by repeat (first | exact Below.refl _ _ | apply Below.drew | apply below_drewN | apply below_al)))) (by have := HLEN.out; rw [List.length_append] at this; exact Nat.le_trans this (by omega)) (by have := HB3.out.size; simp; omega) ?_; intro v2 w4 hown hg hv2; have HB4 := Lib.hid ((go3 HB3.out (by repeat (first | exact Below.refl _ _ | apply Below.drew | apply below_drewN | apply below_al))).grown hg (by have := HB3.out.size; simp; omega) (fun k hk => HOW.out.own k hk)); have HOW2 := Lib.hid hown; have hy := cells_kept (g := wr.heap.size) hg HS3.out HNE.out; have z5 : w4.cell? ⟨wr.heap.size, 1, none⟩ = some (.int .i64 (T : Int)) := (hy 1).trans z3; clear hown hg hy hv2))
                all_goals
                  go_wp2_with fail
                  go_roundw
                  case rel => exact ⟨k + 1, T, _, by omega, by go_num, rfl, HNX, Lib.hid (HOW2.out.below (by repeat (first | exact Below.refl _ _ | apply Below.drew | apply below_drewN | apply below_al))), Lib.hid (go3 HB4.out (by repeat (first | exact Below.refl _ _ | apply Below.drew | apply below_drewN | apply below_al)))⟩
                  case measure => simp [intOf]; omega
            · obtain ⟨g, hg1, hg2⟩ : ∃ g, hs[k - 1]? = some g ∧ g.2.1 = (tt : Int) := by
                rcases hI with ⟨h, _⟩ | ⟨_, h⟩
                · exact absurd h k0
                · exact h
              have b4 : decide (0 < k) = true := decide_eq_true (by omega)
              have kI : (1 : Int) ≤ (k : Int) := by omega
              have HLO : Hid ((if k = 0 then (-1 : Int) else (tt : Int)) = tt) := Lib.hid (if_neg k0)
              obtain ⟨b', o', C', m', e', hb', z0, z1, z2, r'⟩ := HR.out.hunkI hg1
              cases e'
              rw [hg2] at z1
              replace z1 := ((go3 HB1.out HB.out).cell (p := ⟨b, o + (k - 1) * 3 + 1, none⟩) hb').trans z1
              clear z0 z2 r' hb' hg1 hg2 hI k0
              by_cases d4 : f ≤ (tt : Int)
              · have b5 : decide (f ≤ (tt : Int)) = true := decide_eq_true d4
                have HNB : Hid (¬ ((if k = 0 then -1 else (tt : Int)) < f ∧ f ≤ t ∧ t ≤ L.length ∧ (f = t → ls ≠ []))) := Lib.hid (by rw [HLO.out]; rintro ⟨q, _⟩; omega)
                clear d4
                have HBAD := Lib.hid (ap_bad (a := a) (hs := hs) (by rw [apOk_ref, HLB.out, HI.out.bad HX.out (HNB.out), Bool.false_and]))
                go_wp2_with fail
                go_quiet (fail)
                go_wp2_with fail
                go_ret2
                exact RetS.of ⟨rfl, go3 (go3 HB1.out (HB.out.alloc hbs _)) (by repeat (first | exact Below.refl _ _ | apply Below.drew | apply below_drewN | apply below_al))⟩ HBAD.out.1 HBAD.out.2
              · have b5 : decide (f ≤ (tt : Int)) = false := decide_eq_false d4
                have HNS : Hid ((tt : Int) < f) := Lib.hid (by omega)
                clear d4
                by_cases d5 : f = t
                · have b6 : (f == t) = true := by simpa using d5
                  by_cases d6 : ls = []
                  · have b7 : ((ls.length : Int) == 0) = true := by rw [d6]; rfl
                    have HNB : Hid (¬ ((if k = 0 then -1 else (tt : Int)) < f ∧ f ≤ t ∧ t ≤ L.length ∧ (f = t → ls ≠ []))) := Lib.hid (by rintro ⟨_, _, _, q⟩; exact q d5 d6)
                    clear d5 d6
                    have HBAD := Lib.hid (ap_bad (a := a) (hs := hs) (by rw [apOk_ref, HLB.out, HI.out.bad HX.out (HNB.out), Bool.false_and]))
                    go_wp2_with fail
                    go_quiet (fail)
                    go_wp2_with fail
                    go_ret2
                    exact RetS.of ⟨rfl, go3 (go3 HB1.out (HB.out.alloc hbs _)) (by repeat (first | exact Below.refl _ _ | apply Below.drew | apply below_drewN | apply below_al))⟩ HBAD.out.1 HBAD.out.2
                  · have b7 : ((ls.length : Int) == 0) = false := by
                      rw [beq_eq_false_iff_ne]
                      intro e
                      exact d6 (List.eq_nil_of_length_eq_zero (by omega))
                    have HYB : Hid ((if k = 0 then -1 else (tt : Int)) < f ∧ f ≤ t ∧ t ≤ L.length ∧ (f = t → ls ≠ [])) := Lib.hid (by
                      have q2 := D2.out
                      have q3 := D3.out
                      rw [HLO.out]
                      exact ⟨HNS.out, by omega, by omega, fun _ => d6⟩)
                    clear d5 d6
                    go_wp2_with fail
                    go_quiet (fail)
                    go_wp2_with fail
                    clear b1 b2 b3 b4
                    obtain ⟨F, T, rfl, rfl, hF, hF2, hT2, hnx⟩ := HI.out.step HX.out (HYB.out)
                    have HNX := Lib.hid hnx
                    have HLEN : Hid (((done ++ (L.drop tt).take (F - tt)) ++ ls).length ≤ 100000) := Lib.hid (by have := HRL.out; have := hnx.len; omega)
                    have HYL := Lib.hid (cut_len (xs := L) (t := tt) hF2)
                    have hcut := run_cut_texts A1 L.length c1 tt F hF (by omega) r2
                    have HOC := Lib.hid (HOT.out.cut (t := tt) F (by omega))
                    clear hnx
                    generalize cutA A1 c1 tt 1 = A6 at *
                    have hwz : wr.heap.size < wr.heap.size + 1 := Nat.lt_succ_self _
                    go_region_law (first
                      | (refine step_append_textsN rfl (.tmp 68) (.tmp 73) rfl w1.heap.size _ done ((L.drop tt).take (F - tt)) A6 (F - tt) (c1 - tt) HYL.out.symm rfl rfl (HO.out.below (by repeat (first | exact Below.refl _ _ | apply Below.drew | apply below_drewN | apply below_al))) ((HOC.out.below HB.out).below (by repeat (first | exact Below.refl _ _ | apply Below.drew | apply below_drewN | apply below_al))) (by have := HLEN.out; rw [List.length_append, List.length_append] at this; omega) (by simp; omega) ?_; intro v1 w3 hown hg hv1; have HB3 := Lib.hid ((go3 HB.out (by repeat (first | exact Below.refl _ _ | apply Below.drew | apply below_drewN | apply below_al))).grown hg (by simp; omega) (fun k hk => HO.out.own k hk)); have HOW := Lib.hid hown; have hy := cells_kept (g := wr.heap.size) hg (by simp) (by intro e; have := HO.out.lt _ e; omega); have z3 : w3.cell? ⟨wr.heap.size, 1, none⟩ = some (.int .i64 (T : Int)) := (hy 1).trans (by simp [World.cell?_alloc_new]); have z4 : w3.cell? ⟨wr.heap.size, 2, none⟩ = some (.slice C ls.length m) := (hy 2).trans (by simp [World.cell?_alloc_new]); have HNE := Lib.hid (own_ne (g := wr.heap.size) hv1 HO.out.lt (Nat.le_refl _) (by simp)); have HS3 : Hid (wr.heap.size < w3.heap.size) := Lib.hid (by have := hg.size; simp at this; omega); clear hown hg hcut hy hv1)
                      | (refine step_append_textsN rfl (.tmp 74) (.tmp 76) rfl w1.heap.size _ (done ++ (L.drop tt).take (F - tt)) ls C ls.length m rfl rfl rfl (HOW.out.below (by repeat (first | exact Below.refl _ _ | apply Below.drew | apply below_drewN | apply below_al))) (HRT.out.below (go3 (go3 HB1.out HB3.out) (by repeat (first | exact Below.refl _ _ | apply Below.drew | apply below_drewN | apply below_al)))) (by have := HLEN.out; rw [List.length_append] at this; exact Nat.le_trans this (by omega)) (by have := HB3.out.size; simp; omega) ?_; intro v2 w4 hown hg hv2; have HB4 := Lib.hid ((go3 HB3.out (by repeat (first | exact Below.refl _ _ | apply Below.drew | apply below_drewN | apply below_al))).grown hg (by have := HB3.out.size; simp; omega) (fun k hk => HOW.out.own k hk)); have HOW2 := Lib.hid hown; have hy := cells_kept (g := wr.heap.size) hg HS3.out HNE.out; have z5 : w4.cell? ⟨wr.heap.size, 1, none⟩ = some (.int .i64 (T : Int)) := (hy 1).trans z3; clear hown hg hy hv2))
                    all_goals
                      go_wp2_with fail
                      go_roundw
                      case rel => exact ⟨k + 1, T, _, by omega, by go_num, rfl, HNX, Lib.hid (HOW2.out.below (by repeat (first | exact Below.refl _ _ | apply Below.drew | apply below_drewN | apply below_al))), Lib.hid (go3 HB4.out (by repeat (first | exact Below.refl _ _ | apply Below.drew | apply below_drewN | apply below_al)))⟩
                      case measure => simp [intOf]; omega
                · have b6 : (f == t) = false := by simpa using d5
                  have HYB : Hid ((if k = 0 then -1 else (tt : Int)) < f ∧ f ≤ t ∧ t ≤ L.length ∧ (f = t → ls ≠ [])) := Lib.hid (by
                    have q2 := D2.out
                    have q3 := D3.out
                    rw [HLO.out]
                    exact ⟨HNS.out, by omega, by omega, fun e => absurd e d5⟩)
                  clear d5
                  go_wp2_with fail
                  go_quiet (fail)
                  go_wp2_with fail
                  clear b1 b2 b3 b4
                  obtain ⟨F, T, rfl, rfl, hF, hF2, hT2, hnx⟩ := HI.out.step HX.out (HYB.out)
                  have HNX := Lib.hid hnx
                  have HLEN : Hid (((done ++ (L.drop tt).take (F - tt)) ++ ls).length ≤ 100000) := Lib.hid (by have := HRL.out; have := hnx.len; omega)
                  have HYL := Lib.hid (cut_len (xs := L) (t := tt) hF2)
                  have hcut := run_cut_texts A1 L.length c1 tt F hF (by omega) r2
                  have HOC := Lib.hid (HOT.out.cut (t := tt) F (by omega))
                  clear hnx
                  generalize cutA A1 c1 tt 1 = A6 at *
                  have hwz : wr.heap.size < wr.heap.size + 1 := Nat.lt_succ_self _
                  go_region_law (first
                    | (refine step_append_textsN rfl (.tmp 68) (.tmp 73) rfl w1.heap.size _ done ((L.drop tt).take (F - tt)) A6 (F - tt) (c1 - tt) HYL.out.symm rfl rfl (HO.out.below (by repeat (first | exact Below.refl _ _ | apply Below.drew | apply below_drewN | apply below_al))) ((HOC.out.below HB.out).below (by repeat (first | exact Below.refl _ _ | apply Below.drew | apply below_drewN | apply below_al))) (by have := HLEN.out; rw [List.length_append, List.length_append] at this; omega) (by simp; omega) ?_; intro v1 w3 hown hg hv1; have HB3 := Lib.hid ((go3 HB.out (by repeat (first | exact Below.refl _ _ | apply Below.drew | apply below_drewN | apply below_al))).grown hg (by simp; omega) (fun k hk => HO.out.own k hk)); have HOW := Lib.hid hown; have hy := cells_kept (g := wr.heap.size) hg (by simp) (by intro e; have := HO.out.lt _ e; omega); have z3 : w3.cell? ⟨wr.heap.size, 1, none⟩ = some (.int .i64 (T : Int)) := (hy 1).trans (by simp [World.cell?_alloc_new]); have z4 : w3.cell? ⟨wr.heap.size, 2, none⟩ = some (.slice C ls.length m) := (hy 2).trans (by simp [World.cell?_alloc_new]); have HNE := Lib.hid (own_ne (g := wr.heap.size) hv1 HO.out.lt (Nat.le_refl _) (by simp)); have HS3 : Hid (wr.heap.size < w3.heap.size) := Lib.hid (by have := hg.size; simp at this; omega); clear hown hg hcut hy hv1)
                    | (refine step_append_textsN rfl (.tmp 74) (.tmp 76) rfl w1.heap.size _ (done ++ (L.drop tt).take (F - tt)) ls C ls.length m rfl rfl rfl (HOW.out.below (by repeat (first | exact Below.refl _ _ | apply Below.drew | apply below_drewN | apply below_al))) (HRT.out.below (go3 (go3 HB1.out HB3.out) (by repeat (first | exact Below.refl _ _ | apply Below.drew | apply below_drewN | apply below_al)))) (by have := HLEN.out; rw [List.length_append] at this; exact Nat.le_trans this (by omega)) (by have := HB3.out.size; simp; omega) ?_; intro v2 w4 hown hg hv2; have HB4 := Lib.hid ((go3 HB3.out (by repeat (first | exact Below.refl _ _ | apply Below.drew | apply below_drewN | apply below_al))).grown hg (by have := HB3.out.size; simp; omega) (fun k hk => HOW.out.own k hk)); have HOW2 := Lib.hid hown; have hy := cells_kept (g := wr.heap.size) hg HS3.out HNE.out; have z5 : w4.cell? ⟨wr.heap.size, 1, none⟩ = some (.int .i64 (T : Int)) := (hy 1).trans z3; clear hown hg hy hv2))
                  all_goals
                    go_wp2_with fail
                    go_roundw
                    case rel => exact ⟨k + 1, T, _, by omega, by go_num, rfl, HNX, Lib.hid (HOW2.out.below (by repeat (first | exact Below.refl _ _ | apply Below.drew | apply below_drewN | apply below_al))), Lib.hid (go3 HB4.out (by repeat (first | exact Below.refl _ _ | apply Below.drew | apply below_drewN | apply below_al)))⟩
                    case measure => simp [intOf]; omega
    · obtain rfl : k = hs.length := by omega
      obtain ⟨hRe, htl, hsc⟩ := HI.out.done
      have HRE := Lib.hid hRe
      have HSC := Lib.hid hsc
      have hcut := run_drop_texts A1 L.length c1 tt htl
      have HOC := Lib.hid (HOT.out.dropA htl)
      have HLEN : Hid (done.length + (L.drop tt).length ≤ 100000) := Lib.hid (by
        have := HRL.out
        rw [hRe, List.length_append] at this
        omega)
      have HDL : Hid (L.length - tt = (L.drop tt).length) := Lib.hid (by rw [List.length_drop])
      clear hRe hsc HI
      generalize cutA A1 c1 tt 1 = A6 at *
      go_wp2_with (at_builtin; refine wpList_append_textsN rfl (.tmp 81) (.tmp 84) rfl w1.heap.size _ done (L.drop tt) A6 (L.length - tt) (c1 - tt) HDL.out rfl rfl HO.out (HOC.out.below HB.out) (by have := HLEN.out; omega) hbs ?_; intro v1 w3 hown hg hv1; have HB3 := Lib.hid (HB.out.grown hg hbs (fun k hk => HO.out.own k hk)); obtain ⟨A5, c5, hv, hrt⟩ := hown.read; rw [← HRE.out] at hv hrt; have HRT := Lib.hid hrt; have g1 := hrt.1; have g2 := hrt.2.1; subst hv; clear hown hg hv1 hrt hcut)
      have HBW := Lib.hid (go3 HB1.out HB3.out)
      clear HO HB HOC HLEN HDL hbs
      go_loopw [88] (fun i wr => ∃ k : Nat, k ≤ R.length ∧ i = .int .i64 k ∧ Hid ((R.take k).all lnB = true) ∧ Hid (nlT R = nlT (R.drop k)) ∧ Hid (Below w3.heap.size w3 wr)) (fun i _ => R.length - (intOf i).toNat)
      case atStart => exact ⟨0, Nat.zero_le _, rfl, Lib.hid rfl, Lib.hid rfl, Lib.hid (Below.refl _ _)⟩
      case round =>
        obtain ⟨k, hk, rfl, HA, HN, HB⟩ := hrel
        by_cases hkr : k < R.length
        · obtain ⟨x, hx⟩ : ∃ x, R[k]? = some x := ⟨_, List.getElem?_eq_getElem hkr⟩
          obtain ⟨b1, o1, rfl, hb1, hc1⟩ := (HRT.out.below HB.out).2.2 (by omega)
          have hcx := hc1 k x hx
          have HX := Lib.hid hx
          have HLX2 := Lib.hid (fun W h => HLX.out x W h (HRS.out x (List.mem_of_getElem? hx)))
          have HL1 := Lib.hid (lnB_one x)
          clear hc1 hx hb1
          generalize lB x = LX at *
          by_cases hl1 : LX.length = 1
          · have hq1 : ((LX.length : Int) != 1) = false := by rw [hl1]; rfl
            have HLX1 : Hid (lnB x = true) := Lib.hid (by rw [HL1.out]; exact decide_eq_true hl1)
            have HA2 : Hid ((R.take (k + 1)).all lnB = true) := Lib.hid (by rw [all_step HX.out, HA.out, HLX1.out]; rfl)
            clear hl1
            by_cases hk2 : k + 1 < R.length
            · have hkI : (k : Int) + 1 < (R.length : Int) := by omega
              have HSX := Lib.hid (fun W => hasSuffix_any x ⟨#[10]⟩ W (by have := HRS.out x (List.mem_of_getElem? HX.out); omega))
              rw [show Lib.hasSuffix x.data.toList (⟨#[10]⟩ : ByteArray).data.toList = endNl (dT x) from suffix_nl _] at HSX
              cases hl : endNl (dT x) with
              | true =>
                rw [hl] at HSX
                have HN2 := Lib.hid (HN.out.trans ((nlT_step HX.out hk2).trans (by rw [hl, Bool.true_and])))
                clear hl
                go_wp2_with (first
                  | (go_at_call 14; refine (HLX2.out _ (HM.out.below (go3 HBW.out HB.out))).mono ?_; rintro e w5 ⟨A9, c9, rfl, hrt, hb⟩; have HB5 := Lib.hid (go3 HB.out hb); have q1 := hrt.1; have q2 := hrt.2.1; clear hrt hb)
                  | (go_at_call 36; refine (HSX.out _).mono ?_; rintro e w' ⟨rfl, rfl⟩))
                go_roundw
                case rel => exact ⟨k + 1, by omega, by go_num, HA2, HN2, HB5⟩
                case measure => simp [intOf]; omega
              | false =>
                rw [hl] at HSX
                have HN2 := Lib.hid (HN.out.trans ((nlT_step HX.out hk2).trans (by rw [hl, Bool.false_and])))
                clear hl
                go_wp2_with (first
                  | (go_at_call 14; refine (HLX2.out _ (HM.out.below (go3 HBW.out HB.out))).mono ?_; rintro e w5 ⟨A9, c9, rfl, hrt, hb⟩; have HB5 := Lib.hid (go3 HB.out hb); have q1 := hrt.1; have q2 := hrt.2.1; clear hrt hb)
                  | (go_at_call 36; refine (HSX.out _).mono ?_; rintro e w' ⟨rfl, rfl⟩))
                go_ret2
                exact RetS.of ⟨rfl, go3 HBW.out HB5.out⟩ (HBD.out (.inr HN2.out)).1 (HBD.out (.inr HN2.out)).2
            · have hkI : ¬ (k : Int) + 1 < (R.length : Int) := by omega
              have HN2 := Lib.hid (HN.out.trans ((nlT_last hk2).trans (nlT_last (R := R) (i := k + 1) (by omega)).symm))
              go_wp2_with (go_at_call 14; refine (HLX2.out _ (HM.out.below (go3 HBW.out HB.out))).mono ?_; rintro e w5 ⟨A9, c9, rfl, hrt, hb⟩; have HB5 := Lib.hid (go3 HB.out hb); have q1 := hrt.1; have q2 := hrt.2.1; clear hrt hb)
              go_roundw
              case rel => exact ⟨k + 1, by omega, by go_num, HA2, HN2, HB5⟩
              case measure => simp [intOf]; omega
          · have hq1 : ((LX.length : Int) != 1) = true := by rw [bne_iff_ne]; omega
            have HBA : Hid (R.all lnB = false) := Lib.hid (all_miss HX.out (by rw [HL1.out]; exact decide_eq_false hl1))
            clear hl1
            go_wp2_with (go_at_call 14; refine (HLX2.out _ (HM.out.below (go3 HBW.out HB.out))).mono ?_; rintro e w5 ⟨A9, c9, rfl, hrt, hb⟩; have HB5 := Lib.hid (go3 HB.out hb); have q1 := hrt.1; have q2 := hrt.2.1; clear hrt hb)
            go_ret2
            exact RetS.of ⟨rfl, go3 HBW.out HB5.out⟩ (HBD.out (.inl HBA.out)).1 (HBD.out (.inl HBA.out)).2
        · have HT : Hid (nlT R = true) := Lib.hid (HN.out.trans (nlT_last (by omega)))
          have HA2 : Hid (R.all lnB = true) := Lib.hid (by have := HA.out; rw [List.take_of_length_le (by omega)] at this; exact this)
          go_wp2_with (go_at_call 15; refine (HJ.out _ _ _ (HRT.out.below HB.out)).mono ?_; rintro e w4 ⟨rfl, hb⟩; have HB4 := Lib.hid (go3 HB.out hb); clear hb)
          go_ret2
          exact RetS.of ⟨rfl, go3 HBW.out HB4.out⟩ (HGD.out HSC.out HA2.out HT.out).1 (HGD.out HSC.out HA2.out HT.out).2
end Go.Proofs.YtfhkmmicdbblnaaDoor

