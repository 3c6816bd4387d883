/-
  The walk of the reference's Merge.
-/
import Derived.Test.YtfhkmmicdbblnaaDoorG5c1
import Derived.Test.YtfhkmmicdbblnaaDoorG5c2
import Derived.Test.YtfhkmmicdbblnaaDoorG5c3
import Derived.Test.YtfhkmmicdbblnaaDoorG5c4
import Derived.Test.YtfhkmmicdbblnaaDoorG5c5
import Derived.Test.YtfhkmmicdbblnaaDoorG5c6
import Derived.Test.YtfhkmmicdbblnaaDoorG5c7
import Derived.Test.YtfhkmmicdbblnaaDoorG5c8
import Derived.Test.YtfhkmmicdbblnaaDoorG5c9
import Derived.Test.YtfhkmmicdbblnaaDoorG5c10
import Derived.Deep.DeepCutAuto
import Derived.Deep.RegionHeld3
namespace Go.Proofs.YtfhkmmicdbblnaaDoor
set_option linter.unusedSimpArgs false
set_option linter.unusedVariables false
open Go.RowKit Go.Maps

set_option maxHeartbeats 200000000 in
set_option maxRecDepth 100000 in
theorem rmerge_any (o a b : ByteArray) (w : World) (ho : o.size ≤ 100000) (ha : a.size ≤ 100000) (hb : b.size ≤ 100000) (hm : ML w) :
    Calls Tryd.prog 19 #[.string o, .string a, .string b] w (RetP w (mergeT o a b) (dvE [o, a, b])) := by
  have HM := Lib.hid hm
  have HL1 := Lib.hid (fun W h => rLines_any o W ho h)
  have HL2 := Lib.hid (fun W h => rLines_any a W ha h)
  have HL3 := Lib.hid (fun W h => rLines_any b W hb h)
  unfold RetT at HL1 HL2 HL3
  clear hm ha hb ho
  cases hf : fewB [o, a, b] with
  | false =>
    have HE : Hid (mergeT o a b = []) := Lib.hid (by unfold mergeT; rw [hf]; rfl)
    have HD := Lib.hid (dv_bad hf)
    have hc : 400 < (lB o).length ∨ 400 < (lB a).length ∨ 400 < (lB b).length := by
      unfold fewB at hf
      simp only [List.all_cons, List.all_nil, Bool.and_true, Bool.and_eq_false_iff, decide_eq_false_iff_not] at hf
      omega
    clear hf
    generalize lB o = xs at *
    generalize lB a = ys at *
    generalize lB b = zs at *
    by_cases h1 : 400 < xs.length
    · clear hc
      go_enter Tryd.func19, Tryd.ntmps19
      go_wp2_with (first
        | (go_at_call_of 14 (Value.string o); refine (HL1.out _ HM.out).mono ?_; rintro e w1 ⟨A1, c1, rfl, hrt, hb⟩; have HR1 := Lib.hid hrt; have HB1 := Lib.hid hb; have HM1 := Lib.hid (HM.out.below hb); clear hrt hb)
        | (go_at_call_of 14 (Value.string a); refine (HL2.out _ HM1.out).mono ?_; rintro e w2 ⟨A2, c2, rfl, hrt, hb⟩; have HR2 := Lib.hid hrt; have HR12 := Lib.hid (HR1.out.below hb); have HB2 := Lib.hid (go3 HB1.out hb); have HM2 := Lib.hid (HM1.out.below hb); clear hrt hb)
        | (go_at_call 14; refine (HL3.out _ HM2.out).mono ?_; rintro e w3 ⟨A3, c3, rfl, hrt, hb⟩; have HR3 := Lib.hid hrt; have HR13 := Lib.hid (HR12.out.below hb); have HR23 := Lib.hid (HR2.out.below hb); have HB3 := Lib.hid (go3 HB2.out hb); have r1 := HR13.out.1; have r2 := HR13.out.2.1; have r3 := HR23.out.1; have r4 := HR23.out.2.1; have r5 := hrt.1; have r6 := hrt.2.1; clear hrt hb))
      go_ret2
      exact RetP.of ⟨none, 0, rfl, RF.nil _ _ _ _ (by omega), HB3.out⟩ HE.out HD.out.2
    · by_cases h2 : 400 < ys.length
      · clear hc
        go_enter Tryd.func19, Tryd.ntmps19
        go_wp2_with (first
          | (go_at_call_of 14 (Value.string o); refine (HL1.out _ HM.out).mono ?_; rintro e w1 ⟨A1, c1, rfl, hrt, hb⟩; have HR1 := Lib.hid hrt; have HB1 := Lib.hid hb; have HM1 := Lib.hid (HM.out.below hb); clear hrt hb)
          | (go_at_call_of 14 (Value.string a); refine (HL2.out _ HM1.out).mono ?_; rintro e w2 ⟨A2, c2, rfl, hrt, hb⟩; have HR2 := Lib.hid hrt; have HR12 := Lib.hid (HR1.out.below hb); have HB2 := Lib.hid (go3 HB1.out hb); have HM2 := Lib.hid (HM1.out.below hb); clear hrt hb)
          | (go_at_call 14; refine (HL3.out _ HM2.out).mono ?_; rintro e w3 ⟨A3, c3, rfl, hrt, hb⟩; have HR3 := Lib.hid hrt; have HR13 := Lib.hid (HR12.out.below hb); have HR23 := Lib.hid (HR2.out.below hb); have HB3 := Lib.hid (go3 HB2.out hb); have r1 := HR13.out.1; have r2 := HR13.out.2.1; have r3 := HR23.out.1; have r4 := HR23.out.2.1; have r5 := hrt.1; have r6 := hrt.2.1; clear hrt hb))
        go_ret2
        exact RetP.of ⟨none, 0, rfl, RF.nil _ _ _ _ (by omega), HB3.out⟩ HE.out HD.out.2
      · have h3 : 400 < zs.length := by omega
        clear hc
        go_enter Tryd.func19, Tryd.ntmps19
        go_wp2_with (first
          | (go_at_call_of 14 (Value.string o); refine (HL1.out _ HM.out).mono ?_; rintro e w1 ⟨A1, c1, rfl, hrt, hb⟩; have HR1 := Lib.hid hrt; have HB1 := Lib.hid hb; have HM1 := Lib.hid (HM.out.below hb); clear hrt hb)
          | (go_at_call_of 14 (Value.string a); refine (HL2.out _ HM1.out).mono ?_; rintro e w2 ⟨A2, c2, rfl, hrt, hb⟩; have HR2 := Lib.hid hrt; have HR12 := Lib.hid (HR1.out.below hb); have HB2 := Lib.hid (go3 HB1.out hb); have HM2 := Lib.hid (HM1.out.below hb); clear hrt hb)
          | (go_at_call 14; refine (HL3.out _ HM2.out).mono ?_; rintro e w3 ⟨A3, c3, rfl, hrt, hb⟩; have HR3 := Lib.hid hrt; have HR13 := Lib.hid (HR12.out.below hb); have HR23 := Lib.hid (HR2.out.below hb); have HB3 := Lib.hid (go3 HB2.out hb); have r1 := HR13.out.1; have r2 := HR13.out.2.1; have r3 := HR23.out.1; have r4 := HR23.out.2.1; have r5 := hrt.1; have r6 := hrt.2.1; clear hrt hb))
        go_ret2
        exact RetP.of ⟨none, 0, rfl, RF.nil _ _ _ _ (by omega), HB3.out⟩ HE.out HD.out.2
  | true =>
    have HE : Hid (mergeT o a b = mrg (lB o) (lB a) (lB b)) := Lib.hid (by unfold mergeT; rw [hf]; rfl)
    have HD := Lib.hid (dv_good hf)
    obtain ⟨lx, ly, lz⟩ := few3 hf
    clear hf
    generalize lB o = xs at *
    generalize lB a = ys at *
    generalize lB b = zs at *
    have HP1 := Lib.hid (fun A B c d W h k => pairs_any A B c d xs ys W h k (by omega) (by omega))
    have HP2 := Lib.hid (fun A B c d W h k => pairs_any A B c d xs zs W h k (by omega) (by omega))
    have HPB1 : Hid (∀ x y, (x, y) ∈ pairs xs ys 0 0 → x ≤ 400 ∧ y ≤ 400) := Lib.hid (fun x y h => by
      have := pairs_lt h
      omega)
    have HPB2 : Hid (∀ x y, (x, y) ∈ pairs xs zs 0 0 → x ≤ 400 ∧ y ≤ 400) := Lib.hid (fun x y h => by
      have := pairs_lt h
      omega)
    have hp1 := pairs_len_le xs ys
    have hp2 := pairs_len_le xs zs
    have HT1 : Hid (∀ n o, (comm xs ys 0)[n]? = some o → ptab (pairs xs ys 0 0) n = o) := Lib.hid (fun n o h => ptab_comm xs ys h)
    have HT2 : Hid (∀ n o, (comm xs zs 0)[n]? = some o → ptab (pairs xs zs 0 0) n = o) := Lib.hid (fun n o h => ptab_comm xs zs h)
    unfold RetPr at HP1 HP2
    generalize pairs xs ys 0 0 = ps1 at *
    generalize pairs xs zs 0 0 = ps2 at *
    have m1 : ¬ 400 < xs.length := by omega
    have m2 : ¬ 400 < ys.length := by omega
    have m3 : ¬ 400 < zs.length := by omega
    have hmm := @run_makeMap Tryd.prog
    go_enter Tryd.func19, Tryd.ntmps19
    go_wp2_with (first
      | (go_at_call_of 14 (Value.string o); refine (HL1.out _ HM.out).mono ?_; rintro e w1 ⟨A1, c1, rfl, hrt, hb⟩; have HR1 := Lib.hid hrt; have HB1 := Lib.hid hb; have HM1 := Lib.hid (HM.out.below hb); clear hrt hb)
      | (go_at_call_of 14 (Value.string a); refine (HL2.out _ HM1.out).mono ?_; rintro e w2 ⟨A2, c2, rfl, hrt, hb⟩; have HR2 := Lib.hid hrt; have HR12 := Lib.hid (HR1.out.below hb); have HB2 := Lib.hid (go3 HB1.out hb); have HM2 := Lib.hid (HM1.out.below hb); clear hrt hb)
      | (go_at_call 14; refine (HL3.out _ HM2.out).mono ?_; rintro e w3 ⟨A3, c3, rfl, hrt, hb⟩; have HR3 := Lib.hid hrt; have HR13 := Lib.hid (HR12.out.below hb); have HR23 := Lib.hid (HR2.out.below hb); have HB3 := Lib.hid (go3 HB2.out hb); have r1 := HR13.out.1; have r2 := HR13.out.2.1; have r3 := HR23.out.1; have r4 := HR23.out.2.1; have r5 := hrt.1; have r6 := hrt.2.1; clear hrt hb HR1 HR2 HR12 HB1 HB2 HM1 HM2)
      | (go_at_call 29; refine (HP1.out _ _ _ _ _ (HR13.out.below (below_two2 _ _ _)) (HR23.out.below (below_two2 _ _ _))).mono ?_; rintro e w4 ⟨A4, c4, rfl, hrp, hb⟩; have HRP := Lib.hid hrp; have HB4 := Lib.hid (go3 (below_two2 _ _ _) hb); have p1 := hrp.1; rw [List.length_map] at p1; have p2 := hrp.2.1; have HMB : Hid (MM w4 w3.heap.size 0 (ps1.take 0)) := Lib.hid (((MM.made w3 rfl).below (below_alloc _ (.map #[] 0))).below hb); have HMO : Hid (MM w4 (w3.heap.size + 1) 0 []) := Lib.hid ((MM.made (w3.alloc (.map #[] 0)) (by simp)).below hb); clear hrp hb))
    clear hmm
    have HNE : Hid (some (w3.heap.size + 1) ≠ some w3.heap.size) := Lib.hid (by simp)
    have HBK := Lib.hid HMB.out.block
    have HPB := HPB1
    go_loopw [52] (fun i wr => ∃ k : Nat, k ≤ ps1.length ∧ i = .int .i64 k ∧ Hid (MM wr w3.heap.size k (ps1.take k)) ∧ Hid (MM wr (w3.heap.size + 1) ([] : List (Nat × Nat)).length ([] : List (Nat × Nat))) ∧ Hid (w4.grownBy wr (some w3.heap.size))) (fun i _ => ps1.length - (intOf i).toNat)
    case atStart => exact ⟨0, Nat.zero_le _, rfl, HMB, HMO, Lib.hid (World.grownBy.refl _ _)⟩
    case round =>
      clear HMB HMO
      obtain ⟨k, hk, rfl, HMB, HMO, HG⟩ := hrel
      have hgs := HG.out.size
      by_cases hlt : k < ps1.length
      · obtain ⟨⟨x, y⟩, hx⟩ : ∃ p, ps1[k]? = some p := ⟨_, List.getElem?_eq_getElem hlt⟩
        obtain ⟨hx1, hy1⟩ := HPB.out x y (List.mem_of_getElem? hx)
        have HRK : Hid (RPr wr A4 c4 ps1) := Lib.hid (by
          obtain ⟨es, t, hes⟩ := HBK.out
          exact HRP.out.keptMap hes HG.out)
        obtain ⟨b, o', rfl, hb1, x0, x1⟩ := HRK.out.at_ hx
        have HTK := Lib.hid (take_pair hx)
        have HMO2 := Lib.hid (HMO.out.kept (gb_al (World.grownBy.refl wr none) (.cells #[.int .i64 (x : Int), .int .i64 (y : Int)] 78)) (by simp))
        have HMB2 := Lib.hid (HMB.out.kept (gb_al (World.grownBy.refl wr none) (.cells #[.int .i64 (x : Int), .int .i64 (y : Int)] 78)) (by simp))
        obtain ⟨D, hown, hmp⟩ := HMB2.out
        have HOWN := Lib.hid hown
        have HMP := Lib.hid (hmp.put x y)
        have HKEY := Lib.hid (keyN (n := x) (by omega))
        have HWF := Lib.hid (wfN (n := y) (by omega))
        have HML : Hid (k < maxLen) := Lib.hid (by unfold maxLen; omega)
        clear hx hown hmp hb1 HMB2
        go_wp2_with (at_mapUpdate; refine wpList_mapUpdate_own _ rfl _ _ _ 77 rfl 3 3 lawI Tryd.underlying77 _ w3.heap.size _ D rfl HOWN.out HML.out _ _ _ rfl rfl HKEY.out _ [] (plainElem_int Tryd.underlying3 HWF.out) ?_; intro w5 hown1 hg1; have HMN : Hid (MM w5 w3.heap.size (k + 1) (ps1.take (k + 1))) := Lib.hid (by rw [HTK.out]; exact ⟨_, hown1, HMP.out⟩); have HON := Lib.hid (HMO2.out.kept hg1 HNE.out); have HGN := Lib.hid ((gb_al HG.out _).trans hg1); clear hown1 hg1)
        go_roundw
        case rel => exact ⟨k + 1, by omega, by go_num, HMN, HON, HGN⟩
        case measure => simp [intOf]; omega
      · obtain rfl : k = ps1.length := by omega
        rw [List.take_length] at HMB
        obtain ⟨wl, rfl⟩ : ∃ wl, wl = wr := ⟨wr, rfl⟩
        have HB4' : Hid (Below w3.heap.size w3 wl) := Lib.hid (below_gb HB4.out HG.out HB4.out.size (fun j e => by cases e; exact Nat.le_refl _))
        clear HB4 HG HRP HBK HPB HNE hgs p1 p2
        go_wp2_with (go_at_call 29; refine (HP2.out _ _ _ _ _ (HR13.out.below HB4'.out) (HR3.out.below HB4'.out)).mono ?_; rintro e w6 ⟨A6, c6, rfl, hrp, hb⟩; have HRP := Lib.hid hrp; have HB6 := Lib.hid (go3 HB4'.out hb); have p1 := hrp.1; rw [List.length_map] at p1; have p2 := hrp.2.1; have HMA := Lib.hid (HMB.out.below hb); have HMC : Hid (MM w6 (w3.heap.size + 1) 0 (ps2.take 0)) := Lib.hid (HMO.out.below hb); clear hrp hb)
        clear HMB HMO HB4'
        have HNE : Hid (some w3.heap.size ≠ some (w3.heap.size + 1)) := Lib.hid (by simp)
        have HBK := Lib.hid HMC.out.block
        have HPB := HPB2
        obtain ⟨HMB, HMO⟩ := And.intro HMC HMA
        clear HMC HMA
        go_loopw [66] (fun i wr => ∃ k : Nat, k ≤ ps2.length ∧ i = .int .i64 k ∧ Hid (MM wr (w3.heap.size + 1) k (ps2.take k)) ∧ Hid (MM wr w3.heap.size ps1.length ps1) ∧ Hid (w6.grownBy wr (some (w3.heap.size + 1)))) (fun i _ => ps2.length - (intOf i).toNat)
        case atStart => exact ⟨0, Nat.zero_le _, rfl, HMB, HMO, Lib.hid (World.grownBy.refl _ _)⟩
        case round =>
          clear HMB HMO
          obtain ⟨k, hk, rfl, HMB, HMO, HG⟩ := hrel
          have hgs := HG.out.size
          by_cases hlt : k < ps2.length
          · obtain ⟨⟨x, y⟩, hx⟩ : ∃ p, ps2[k]? = some p := ⟨_, List.getElem?_eq_getElem hlt⟩
            obtain ⟨hx1, hy1⟩ := HPB.out x y (List.mem_of_getElem? hx)
            have HRK : Hid (RPr wr A6 c6 ps2) := Lib.hid (by
              obtain ⟨es, t, hes⟩ := HBK.out
              exact HRP.out.keptMap hes HG.out)
            obtain ⟨b, o', rfl, hb1, x0, x1⟩ := HRK.out.at_ hx
            have HTK := Lib.hid (take_pair hx)
            have HMO2 := Lib.hid (HMO.out.kept (gb_al (World.grownBy.refl wr none) (.cells #[.int .i64 (x : Int), .int .i64 (y : Int)] 78)) (by simp))
            have HMB2 := Lib.hid (HMB.out.kept (gb_al (World.grownBy.refl wr none) (.cells #[.int .i64 (x : Int), .int .i64 (y : Int)] 78)) (by simp))
            obtain ⟨D, hown, hmp⟩ := HMB2.out
            have HOWN := Lib.hid hown
            have HMP := Lib.hid (hmp.put x y)
            have HKEY := Lib.hid (keyN (n := x) (by omega))
            have HWF := Lib.hid (wfN (n := y) (by omega))
            have HML : Hid (k < maxLen) := Lib.hid (by unfold maxLen; omega)
            clear hx hown hmp hb1 HMB2
            go_wp2_with (at_mapUpdate; refine wpList_mapUpdate_own _ rfl _ _ _ 77 rfl 3 3 lawI Tryd.underlying77 _ (w3.heap.size + 1) _ D rfl HOWN.out HML.out _ _ _ rfl rfl HKEY.out _ [] (plainElem_int Tryd.underlying3 HWF.out) ?_; intro w5 hown1 hg1; have HMN : Hid (MM w5 (w3.heap.size + 1) (k + 1) (ps2.take (k + 1))) := Lib.hid (by rw [HTK.out]; exact ⟨_, hown1, HMP.out⟩); have HON := Lib.hid (HMO2.out.kept hg1 HNE.out); have HGN := Lib.hid ((gb_al HG.out _).trans hg1); clear hown1 hg1)
            go_roundw
            case rel => exact ⟨k + 1, by omega, by go_num, HMN, HON, HGN⟩
            case measure => simp [intOf]; omega
          · obtain rfl : k = ps2.length := by omega
            rw [List.take_length] at HMB
            obtain ⟨w8, rfl⟩ : ∃ w8, w8 = wr := ⟨wr, rfl⟩
            have HB8 : Hid (Below w3.heap.size w3 w8) := Lib.hid (below_gb HB6.out HG.out HB6.out.size (fun j e => by cases e; exact Nat.le_succ _))
            have HX := Lib.hid (HR13.out.below HB8.out)
            have HY := Lib.hid (HR23.out.below HB8.out)
            have HZ := Lib.hid (HR3.out.below HB8.out)
            have HBW := Lib.hid (go3 HB3.out HB8.out)
            have HMR := HMB
            have HML := HMO
            clear HMB HMO HB8 HB6 HG HRP HBK HPB HNE hgs p1 p2 HR13 HR23 HR3 HB3 HP1 HP2 HPB1 HPB2
            go_wp2_with fail
            go_loopg [17, 18, 19, 20, 21] (xs.length + 2) (fun g v i j l n wx => ∃ (m f1 f2 f3 : Nat) (ps : List (Pc ByteArray)), m + g = xs.length + 2 ∧ i = .int .i64 f1 ∧ j = .int .i64 f2 ∧ l = .int .i64 f3 ∧ n = .int .i64 m ∧ Hid (GE xs ys zs m (f1, f2, f3) ps) ∧ Hid (PS wx w8.heap.size v ps) ∧ Hid (Below w8.heap.size w8 wx))
            case atStart => exact ⟨0, 0, 0, 0, [], by omega, rfl, rfl, rfl, rfl, Lib.hid (GE.of (GI.start _ _ _) (Nat.zero_le _)), Lib.hid (.inl ⟨rfl, rfl⟩), Lib.hid (Below.refl _ _)⟩
            case round =>
              rename_i JJ KK hjj hkk
              obtain ⟨m, f1, f2, f3, ps, hm, rfl, rfl, rfl, rfl, HG, HP, HB⟩ := hrel
              obtain ⟨A7, n7, hv7, hrf⟩ := HP.out.read
              subst hv7
              have HRF := Lib.hid hrf
              have hrc := hrf.1
              have hrc2 := hrf.2.1
              rw [List.length_map] at hrc
              have hbs := HB.out.size
              clear hrf
              have hmu := HG.out.1
              by_cases hlt : m ≤ xs.length
              · have HGI := Lib.hid (HG.out.at_ hlt)
                have hpl := HGI.out.2.2.2
                clear HRF
                by_cases hl2 : m < xs.length
                · obtain ⟨oo, hoo⟩ : ∃ oo, (comm xs ys 0)[m]? = some oo := ⟨_, List.getElem?_eq_getElem (by rw [comm_len]; exact hl2)⟩
                  obtain ⟨pp, hpp⟩ : ∃ pp, (comm xs zs 0)[m]? = some pp := ⟨_, List.getElem?_eq_getElem (by rw [comm_len]; exact hl2)⟩
                  obtain ⟨D1, hown1, hmp1⟩ := HML.out.below HB.out
                  obtain ⟨D2, hown2, hmp2⟩ := HMR.out.below HB.out
                  have HOWN1 := Lib.hid hown1
                  have HOWN2 := Lib.hid hown2
                  have hh1 := (hmp1.2 m).1
                  have hh2 := (hmp2.2 m).1
                  rw [HT1.out m _ hoo] at hh1
                  rw [HT2.out m _ hpp] at hh2
                  have HV1 := Lib.hid (fun y e => (hmp1.2 m).2 y ((HT1.out m _ hoo).trans e))
                  have HV2 := Lib.hid (fun y e => (hmp2.2 m).2 y ((HT2.out m _ hpp).trans e))
                  have HKEY := Lib.hid (keyN (n := m) (by omega))
                  clear hown1 hown2 hmp1 hmp2
                  cases oo with
                  | none =>
                    have HN := Lib.hid (GE.of (HGI.out.skip hoo hpp (.inl rfl)) hl2)
                    simp only [Option.isSome_none] at hh1
                    clear hoo hpp
                    cases pp with
                    | none =>
                      simp only [Option.isSome_none] at hh2
                      go_wp2_with (first
                        | (at_lookup; refine wpList_lookup_own_ok_int _ rfl _ _ 77 rfl 3 3 .i64 lawI Tryd.underlying77 Tryd.underlying3 (zeroI _) w3.heap.size _ D1 rfl HOWN1.out _ _ rfl HKEY.out ?_; intro cx hat _; clear hat)
                        | (at_lookup; refine wpList_lookup_own_ok_int _ rfl _ _ 77 rfl 3 3 .i64 lawI Tryd.underlying77 Tryd.underlying3 (zeroI _) (w3.heap.size + 1) _ D2 rfl HOWN2.out _ _ rfl HKEY.out ?_; intro cy hat _; clear hat))
                      go_roundg (gk - 1)
                      case measure => omega
                      case rel => exact ⟨m + 1, f1, f2, f3, ps, by omega, rfl, rfl, rfl, by go_num, HN, HP, HB⟩
                    | some y =>
                      simp only [Option.isSome_some] at hh2
                      go_wp2_with (first
                        | (at_lookup; refine wpList_lookup_own_ok_int _ rfl _ _ 77 rfl 3 3 .i64 lawI Tryd.underlying77 Tryd.underlying3 (zeroI _) w3.heap.size _ D1 rfl HOWN1.out _ _ rfl HKEY.out ?_; intro cx hat _; clear hat)
                        | (at_lookup; refine wpList_lookup_own_ok_int _ rfl _ _ 77 rfl 3 3 .i64 lawI Tryd.underlying77 Tryd.underlying3 (zeroI _) (w3.heap.size + 1) _ D2 rfl HOWN2.out _ _ rfl HKEY.out ?_; intro cy hat _; clear hat))
                      go_roundg (gk - 1)
                      case measure => omega
                      case rel => exact ⟨m + 1, f1, f2, f3, ps, by omega, rfl, rfl, rfl, by go_num, HN, HP, HB⟩
                  | some x =>
                    simp only [Option.isSome_some] at hh1
                    cases pp with
                    | none =>
                      have HN := Lib.hid (GE.of (HGI.out.skip hoo hpp (.inr rfl)) hl2)
                      simp only [Option.isSome_none] at hh2
                      clear hoo hpp
                      go_wp2_with (first
                        | (at_lookup; refine wpList_lookup_own_ok_int _ rfl _ _ 77 rfl 3 3 .i64 lawI Tryd.underlying77 Tryd.underlying3 (zeroI _) w3.heap.size _ D1 rfl HOWN1.out _ _ rfl HKEY.out ?_; intro cx hat _; clear hat)
                        | (at_lookup; refine wpList_lookup_own_ok_int _ rfl _ _ 77 rfl 3 3 .i64 lawI Tryd.underlying77 Tryd.underlying3 (zeroI _) (w3.heap.size + 1) _ D2 rfl HOWN2.out _ _ rfl HKEY.out ?_; intro cy hat _; clear hat))
                      go_roundg (gk - 1)
                      case measure => omega
                      case rel => exact ⟨m + 1, f1, f2, f3, ps, by omega, rfl, rfl, rfl, by go_num, HN, HP, HB⟩
                    | some y =>
                      simp only [Option.isSome_some] at hh2
                      obtain ⟨u, hu, ⟨g1, g2, g3, g4, g5, g6⟩, hno, hyes⟩ := HGI.out.stepR hoo hpp
                      simp only at g1 g2 g3
                      have HNO := Lib.hid hno
                      have HYES := Lib.hid hyes
                      obtain ⟨bx, ox, rfl, hbx, hcx⟩ := HX.out.2.2 (by omega)
                      have HCU := Lib.hid (hcx m u hu)
                      have HBX := Lib.hid hbx
                      clear hoo hpp hno hyes hcx hu hbx HGI
                      by_cases hfe : f1 = m ∧ f2 = x ∧ f3 = y
                      · obtain ⟨rfl, rfl, rfl⟩ := hfe
                        by_cases hm0 : 0 < f1
                        ·
                          exact rm_1 (w1 := w1) (w2 := w2) (w4 := w4) (u53 := u53) (wl := wl) (w6 := w6) (u67 := u67) (lx := lx) (ly := ly) (lz := lz) (m1 := m1) (m2 := m2) (m3 := m3) (r1 := r1) (r2 := r2) (r3 := r3) (r4 := r4) (r5 := r5) (r6 := r6) (hk := hk) (HY := HY) (HZ := HZ) (HBW := HBW) (HMR := HMR) (HML := HML) (hkk := hkk) (HB := HB) (HP := HP) (hrc := hrc) (hrc2 := hrc2) (hbs := hbs) (D1 := D1) (D2 := D2) (HOWN1 := HOWN1) (HOWN2 := HOWN2) (HX := HX) (hjj := hjj) (HBX := HBX) (hm := hm) (HG := HG) (hmu := hmu) (hlt := hlt) (hpl := hpl) (hl2 := hl2) (HKEY := HKEY) (hh1 := hh1) (hh2 := hh2) (g1 := g1) (g4 := g4) (HCU := HCU) (g2 := g2) (g5 := g5) (HV1 := HV1) (g3 := g3) (g6 := g6) (HV2 := HV2) (HNO := HNO) (HYES := HYES) (hm0 := hm0)
                        · have HN := Lib.hid (GE.of (HNO.out (fun e => hm0 e.1)) hl2)
                          have HDF : Hid (diffP xs ys zs (f1, f2, f3) (f1, f2, f3) = []) := Lib.hid (by unfold diffP; rw [if_pos rfl])
                          rw [HDF.out, List.append_nil] at HN
                          have hm1 : ¬ (0 : Int) < (f1 : Int) := by omega
                          have HQP := HP
                          have HQB := HB
                          clear HDF HNO HYES hm0
                          exact rm_2 (w1 := w1) (w2 := w2) (w4 := w4) (u53 := u53) (wl := wl) (w6 := w6) (u67 := u67) (lx := lx) (ly := ly) (lz := lz) (m1 := m1) (m2 := m2) (m3 := m3) (r1 := r1) (r2 := r2) (r3 := r3) (r4 := r4) (r5 := r5) (r6 := r6) (hk := hk) (HY := HY) (HZ := HZ) (HBW := HBW) (HMR := HMR) (HML := HML) (hkk := hkk) (HB := HB) (HP := HP) (hrc := hrc) (hrc2 := hrc2) (hbs := hbs) (D1 := D1) (D2 := D2) (HOWN1 := HOWN1) (HOWN2 := HOWN2) (HX := HX) (hjj := hjj) (HBX := HBX) (hm := hm) (HG := HG) (hmu := hmu) (hlt := hlt) (hpl := hpl) (hl2 := hl2) (HKEY := HKEY) (hh1 := hh1) (hh2 := hh2) (g1 := g1) (g4 := g4) (HCU := HCU) (g2 := g2) (g5 := g5) (HV1 := HV1) (g3 := g3) (g6 := g6) (HV2 := HV2) (HN := HN) (hm1 := hm1) (HQP := HQP) (HQB := HQB)
                      · have HDF : Hid (diffP xs ys zs (f1, f2, f3) (m, x, y) = [⟨kindOf (seg xs f1 m) (seg ys f2 x) (seg zs f3 y), seg xs f1 m, seg ys f2 x, seg zs f3 y⟩]) := Lib.hid (by
                          unfold diffP
                          rw [if_neg (by intro e; simp only [Prod.mk.injEq] at e; exact hfe e)])
                        have HN0 := HNO.out (fun e => hfe (by have := e.2; simp only [Prod.mk.injEq] at this; exact this))
                        rw [HDF.out] at HN0
                        have HN := Lib.hid (GE.of HN0 hl2)
                        have hnn : ¬ (f1 = m ∧ f2 = x ∧ f3 = y) := hfe
                        clear HN0 HDF HNO HYES hfe HG
                        by_cases hd1 : f1 < m
                        · have b1 : ((m : Int) == (f1 : Int)) = false := by rw [beq_eq_false_iff_ne]; omega
                          have hm1 : (0 : Int) < (m : Int) := by omega
                          clear hnn
                          exact rm_3 (w1 := w1) (w2 := w2) (w4 := w4) (u53 := u53) (wl := wl) (w6 := w6) (u67 := u67) (lx := lx) (ly := ly) (lz := lz) (m1 := m1) (m2 := m2) (m3 := m3) (r1 := r1) (r2 := r2) (r3 := r3) (r4 := r4) (r5 := r5) (r6 := r6) (hk := hk) (HY := HY) (HZ := HZ) (HBW := HBW) (HMR := HMR) (HML := HML) (hkk := hkk) (hm := hm) (HB := HB) (HP := HP) (hrc := hrc) (hrc2 := hrc2) (hbs := hbs) (hmu := hmu) (hlt := hlt) (hpl := hpl) (hl2 := hl2) (D1 := D1) (D2 := D2) (HOWN1 := HOWN1) (HOWN2 := HOWN2) (HKEY := HKEY) (hh1 := hh1) (HV1 := HV1) (hh2 := hh2) (HV2 := HV2) (g1 := g1) (g2 := g2) (g3 := g3) (g4 := g4) (g5 := g5) (g6 := g6) (HX := HX) (hjj := hjj) (HCU := HCU) (HBX := HBX) (HN := HN) (hd1 := hd1) (b1 := b1) (hm1 := hm1)
                        · obtain rfl : f1 = m := by omega
                          by_cases hd2 : f2 < x
                          · have b1 : ((x : Int) == (f2 : Int)) = false := by rw [beq_eq_false_iff_ne]; omega
                            clear hnn
                            by_cases hm1 : (0 : Int) < (f1 : Int)
                            ·
                              exact rm_4 (w1 := w1) (w2 := w2) (w4 := w4) (u53 := u53) (wl := wl) (w6 := w6) (u67 := u67) (lx := lx) (ly := ly) (lz := lz) (m1 := m1) (m2 := m2) (m3 := m3) (r1 := r1) (r2 := r2) (r3 := r3) (r4 := r4) (r5 := r5) (r6 := r6) (hk := hk) (HY := HY) (HZ := HZ) (HBW := HBW) (HMR := HMR) (HML := HML) (hkk := hkk) (HB := HB) (HP := HP) (hrc := hrc) (hrc2 := hrc2) (hbs := hbs) (D1 := D1) (D2 := D2) (HOWN1 := HOWN1) (HOWN2 := HOWN2) (g2 := g2) (g3 := g3) (g5 := g5) (g6 := g6) (HX := HX) (hjj := hjj) (HBX := HBX) (hm := hm) (hmu := hmu) (hlt := hlt) (hpl := hpl) (hl2 := hl2) (HKEY := HKEY) (hh1 := hh1) (HV1 := HV1) (hh2 := hh2) (HV2 := HV2) (g1 := g1) (g4 := g4) (HCU := HCU) (HN := HN) (hd1 := hd1) (hd2 := hd2) (b1 := b1) (hm1 := hm1)
                            ·
                              exact rm_5 (w1 := w1) (w2 := w2) (w4 := w4) (u53 := u53) (wl := wl) (w6 := w6) (u67 := u67) (lx := lx) (ly := ly) (lz := lz) (m1 := m1) (m2 := m2) (m3 := m3) (r1 := r1) (r2 := r2) (r3 := r3) (r4 := r4) (r5 := r5) (r6 := r6) (hk := hk) (HY := HY) (HZ := HZ) (HBW := HBW) (HMR := HMR) (HML := HML) (hkk := hkk) (HB := HB) (HP := HP) (hrc := hrc) (hrc2 := hrc2) (hbs := hbs) (D1 := D1) (D2 := D2) (HOWN1 := HOWN1) (HOWN2 := HOWN2) (g2 := g2) (g3 := g3) (g5 := g5) (g6 := g6) (HX := HX) (hjj := hjj) (HBX := HBX) (hm := hm) (hmu := hmu) (hlt := hlt) (hpl := hpl) (hl2 := hl2) (HKEY := HKEY) (hh1 := hh1) (HV1 := HV1) (hh2 := hh2) (HV2 := HV2) (g1 := g1) (g4 := g4) (HCU := HCU) (HN := HN) (hd1 := hd1) (hd2 := hd2) (b1 := b1) (hm1 := hm1)
                          · obtain rfl : f2 = x := by omega
                            have hd3 : f3 < y := by omega
                            have b1 : ((y : Int) == (f3 : Int)) = false := by rw [beq_eq_false_iff_ne]; omega
                            clear hnn
                            by_cases hm1 : (0 : Int) < (f1 : Int)
                            ·
                              exact rm_6 (w1 := w1) (w2 := w2) (w4 := w4) (u53 := u53) (wl := wl) (w6 := w6) (u67 := u67) (lx := lx) (ly := ly) (lz := lz) (m1 := m1) (m2 := m2) (m3 := m3) (r1 := r1) (r2 := r2) (r3 := r3) (r4 := r4) (r5 := r5) (r6 := r6) (hk := hk) (HY := HY) (HZ := HZ) (HBW := HBW) (HMR := HMR) (HML := HML) (hkk := hkk) (HB := HB) (HP := HP) (hrc := hrc) (hrc2 := hrc2) (hbs := hbs) (D1 := D1) (D2 := D2) (HOWN1 := HOWN1) (HOWN2 := HOWN2) (g3 := g3) (g6 := g6) (HX := HX) (hjj := hjj) (HBX := HBX) (hm := hm) (hmu := hmu) (hlt := hlt) (hpl := hpl) (hl2 := hl2) (HKEY := HKEY) (hh1 := hh1) (hh2 := hh2) (HV2 := HV2) (g1 := g1) (g4 := g4) (HCU := HCU) (hd1 := hd1) (g2 := g2) (g5 := g5) (HV1 := HV1) (HN := HN) (hd2 := hd2) (hd3 := hd3) (b1 := b1) (hm1 := hm1)
                            ·
                              exact rm_7 (w1 := w1) (w2 := w2) (w4 := w4) (u53 := u53) (wl := wl) (w6 := w6) (u67 := u67) (lx := lx) (ly := ly) (lz := lz) (m1 := m1) (m2 := m2) (m3 := m3) (r1 := r1) (r2 := r2) (r3 := r3) (r4 := r4) (r5 := r5) (r6 := r6) (hk := hk) (HY := HY) (HZ := HZ) (HBW := HBW) (HMR := HMR) (HML := HML) (hkk := hkk) (HB := HB) (HP := HP) (hrc := hrc) (hrc2 := hrc2) (hbs := hbs) (D1 := D1) (D2 := D2) (HOWN1 := HOWN1) (HOWN2 := HOWN2) (g3 := g3) (g6 := g6) (HX := HX) (hjj := hjj) (HBX := HBX) (hm := hm) (hmu := hmu) (hlt := hlt) (hpl := hpl) (hl2 := hl2) (HKEY := HKEY) (hh1 := hh1) (hh2 := hh2) (HV2 := HV2) (g1 := g1) (g4 := g4) (HCU := HCU) (hd1 := hd1) (g2 := g2) (g5 := g5) (HV1 := HV1) (HN := HN) (hd2 := hd2) (hd3 := hd3) (b1 := b1) (hm1 := hm1)
                · obtain rfl : m = xs.length := by omega
                  obtain ⟨⟨g1, g2, g3⟩, hdone⟩ := HGI.out.done
                  simp only at g1 g2 g3
                  have HDN := Lib.hid hdone
                  clear hdone HGI
                  by_cases hfe : f1 = xs.length ∧ f2 = ys.length ∧ f3 = zs.length
                  · obtain ⟨rfl, rfl, rfl⟩ := hfe
                    have HN : Hid (GE xs ys zs (xs.length + 1) (xs.length + 1, ys.length + 1, zs.length + 1) ps) := Lib.hid ⟨Nat.le_refl _, fun h => by omega, fun _ => by rw [HDN.out]; unfold diffP; rw [if_pos rfl, List.append_nil]⟩
                    go_wp2_with fail
                    go_roundg (gk - 1)
                    case measure => omega
                    case rel => exact ⟨xs.length + 1, xs.length + 1, ys.length + 1, zs.length + 1, ps, by omega, by go_num, by go_num, by go_num, by go_num, HN, HP, HB⟩
                  · have HDF : Hid (diffP xs ys zs (f1, f2, f3) (xs.length, ys.length, zs.length) = [⟨kindOf (seg xs f1 xs.length) (seg ys f2 ys.length) (seg zs f3 zs.length), seg xs f1 xs.length, seg ys f2 ys.length, seg zs f3 zs.length⟩]) := Lib.hid (by
                      unfold diffP
                      rw [if_neg (by intro e; simp only [Prod.mk.injEq] at e; exact hfe e)])
                    have HN : Hid (GE xs ys zs (xs.length + 1) (xs.length + 1, ys.length + 1, zs.length + 1) (ps ++ [⟨kindOf (seg xs f1 xs.length) (seg ys f2 ys.length) (seg zs f3 zs.length), seg xs f1 xs.length, seg ys f2 ys.length, seg zs f3 zs.length⟩])) := Lib.hid ⟨Nat.le_refl _, fun h => by omega, fun _ => by rw [HDN.out, HDF.out]⟩
                    have hnn : ¬ (f1 = xs.length ∧ f2 = ys.length ∧ f3 = zs.length) := hfe
                    clear HDF HDN hfe HG
                    by_cases hd1 : f1 < xs.length
                    · clear hnn
                      exact rm_8 (w1 := w1) (w2 := w2) (w4 := w4) (u53 := u53) (wl := wl) (w6 := w6) (u67 := u67) (lx := lx) (ly := ly) (lz := lz) (m1 := m1) (m2 := m2) (m3 := m3) (r1 := r1) (r2 := r2) (r3 := r3) (r4 := r4) (r5 := r5) (r6 := r6) (hk := hk) (HX := HX) (HY := HY) (HZ := HZ) (HBW := HBW) (HMR := HMR) (HML := HML) (hjj := hjj) (hkk := hkk) (HB := HB) (HP := HP) (hrc := hrc) (hrc2 := hrc2) (hbs := hbs) (hm := hm) (hmu := hmu) (hlt := hlt) (hpl := hpl) (hl2 := hl2) (g1 := g1) (g2 := g2) (g3 := g3) (HN := HN) (hd1 := hd1)
                    · by_cases hd2 : f2 < ys.length
                      · clear hnn
                        exact rm_9 (w1 := w1) (w2 := w2) (w4 := w4) (u53 := u53) (wl := wl) (w6 := w6) (u67 := u67) (lx := lx) (ly := ly) (lz := lz) (m1 := m1) (m2 := m2) (m3 := m3) (r1 := r1) (r2 := r2) (r3 := r3) (r4 := r4) (r5 := r5) (r6 := r6) (hk := hk) (HX := HX) (HY := HY) (HZ := HZ) (HBW := HBW) (HMR := HMR) (HML := HML) (hjj := hjj) (hkk := hkk) (HB := HB) (HP := HP) (hrc := hrc) (hrc2 := hrc2) (hbs := hbs) (hm := hm) (hmu := hmu) (hlt := hlt) (hpl := hpl) (hl2 := hl2) (g1 := g1) (g2 := g2) (g3 := g3) (HN := HN) (hd1 := hd1) (hd2 := hd2)
                      · have hd3 : f3 < zs.length := by omega
                        clear hnn
                        exact rm_10 (w1 := w1) (w2 := w2) (w4 := w4) (u53 := u53) (wl := wl) (w6 := w6) (u67 := u67) (lx := lx) (ly := ly) (lz := lz) (m1 := m1) (m2 := m2) (m3 := m3) (r1 := r1) (r2 := r2) (r3 := r3) (r4 := r4) (r5 := r5) (r6 := r6) (hk := hk) (HX := HX) (HY := HY) (HZ := HZ) (HBW := HBW) (HMR := HMR) (HML := HML) (hjj := hjj) (hkk := hkk) (HB := HB) (HP := HP) (hrc := hrc) (hrc2 := hrc2) (hbs := hbs) (hm := hm) (hmu := hmu) (hlt := hlt) (hpl := hpl) (hl2 := hl2) (g1 := g1) (g2 := g2) (g3 := g3) (HN := HN) (hd1 := hd1) (hd2 := hd2) (hd3 := hd3)
              · obtain rfl : m = xs.length + 1 := by omega
                have HEQ := Lib.hid (HG.out.2.2 rfl)
                go_wp2_with fail
                go_ret2
                exact RetP.of ⟨A7, n7, rfl, HRF.out, go3 HBW.out HB.out⟩ (by rw [HE.out, HEQ.out]) HD.out.2
end Go.Proofs.YtfhkmmicdbblnaaDoor

